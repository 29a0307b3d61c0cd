/- A part of the proof. -/
import Derived.Test.YtajjljbmfdboaaaGreatDoorP13
import Derived.Test.YtajjljbmfdboaaaGreatDoorP11
import Derived.Test.YtajjljbmfdboaaaGreatDoorP10
section
namespace Go.Proofs.YtajjljbmfdboaaaGreatDoor.N
open Go Go.Ab Go.Hm Go.Nt
theorem neN {a n:aQ} {k:Value→Prop} (hk:k (.bool (decide (a≠n)))) {c0:Bool} (hc:c0=true:=by kernel_rfl):Lx c0 [0,0,0,0,0,0,0,1,0] .neq (.agg ⟨a.enc⟩) (.agg ⟨n.enc⟩) k:=by
 refine⟨hc,_,?_,hk⟩
 cases a;cases n
 simp[Km,nC,Nh,P8,aQ.enc]
 rw[Bool.eq_iff_iff]
 simp
set_option maxRecDepth 100000
attribute [local irreducible] aZ Br oM rI sQ Bi lE tH kU Qb gI lF pD pW oR kH zH tJ W2 Ut Qa Nn T3 P6 Km Lx T2 jR mX rV iO copyV iB vL Va Uo Fm kB Lu Sv Vn nF rH wK zB Cl wX T1 rM qX jI gS cI cA
variable {G:Bg} {h:AH} {L L':List HP}
theorem aAi {P:Program} {f:FuncId} {p:List Nat} {n l d:Nat} {e:Nat→Value} {st:LoopState} {pd:Option Code} {k:Option Code×AH→Prop} (hs:Hs G h L) [m:mS l L ⟨P,f,p,n,e,d,st,pd⟩ L'] (hst:st≠.busy) (hk:∀h',Hs G h' L'→k (pd,h')):aZ (qX h l) k:=
 qg (P:=P) (f:=f) (p:=p) (n:=n) (e:=e) (d:=d) (st:=st) (pd:=pd) (k:=fun a b=>k (a,b)) (show Hs G h (nE P f p n e d l (st,pd)::L') from m.of hs) hst hk
theorem at7 {l:List Int} {i:Nat} {k:Value→Prop} (hl:l.length=7) (hi:i<7) (hk:k (I (l.getD i 0))):aZ (Lu 7 1 (.agg ⟨l.map I⟩) (I i)) k:=
 Yc hi (by rw[List.getElem?_map,List.getElem?_eq_getElem (by omega),List.getD_eq_getElem?_getD,List.getElem?_eq_getElem (by omega)];rfl) hk
theorem Zq {k:Int} {Q:Value→AH→Prop} (hs:Hs G h L) (hk:∀p h',Hs G h' (aE p 0 [I k]::L)→Q (.func (.func 305) #[] #[pt p 0 0]) h'):Cl Pr K 265 [I k] h Q:=by
 refine cW (dJ hs ?_)
 intro p h hs
 exact hk p h hs
theorem gx {p n:Nat} (hkd:Ob G 2 tZ) (hn:n<14):qy Pr K G 305 [] [pt p 0 0] (aE p 0 [I n]) ((Bs n).map fun f=>[I f]):=by
 intro I' J y L h Q hs hy h1 h2
 refine cW (aC hs rfl (mF hn (aA (Ue hs hkd (l:=(Z4 n).map I) (eh hn) (by rw[List.length_map,Yq hn]) (by rw[ep];omega) ?_))))
 have hl:=Yq hn
 have loop:∀(f i:Nat) (h:AH),i+f=7→Hs G h (aE p 0 [I n]::I' ((ws (Z4 n) f i).map fun f=>[I f])::L)→Dd 305 1 [] Q [y,(.agg ⟨(Z4 n).map I⟩),(I i)] h:=by
  intro f
  induction f with
  |zero=>
   intro i h hi hs
   exact bW (aU (aI (by omega) (h1 _ h hs)))
  |succ f ih=>
   intro i h hi hs
   unfold ws at hs
   refine bW (aU (bM (by omega) (bW (at7 hl (by omega) (bC (aS (fun h0=>?_) (fun h0=>?_)))))))
   ·rw[if_pos h0] at hs;exact h1 _ h hs
   ·rw[if_neg h0] at hs
    refine(hy _ _ h _ hs.kI).mono fun v h' hv=>?_
    rcases hv with⟨rfl,hs'⟩|⟨rfl,hs'⟩
    ·exact bU (bS (bW (bI (by omega) (ih (i+1) h' (by omega) hs'.kI))))
    ·exact bU (dY (h2 _ h' hs'.kI))
 exact loop 7 0 h rfl hs
def ckC (C:bQ) (n:aQ) (p2 p3 p5 p6 l d:Nat) (e:Nat→Value) (rest:List (List Value)) (fs:List Int) (a:aQ):List HP:=
 [zD (rest=fs.map fun f=>[I f]),zD (∀f∈fs,1≤f∧f≤13),zD (oV C n fs a=oV C n (Bs n.kind.toNat) (Ck n.kind)),nE Pr 213 (nB 1786) 41 e d l (.ready,none),aE p2 0 C.enc,aE p3 0 n.enc,aE p5 0 [.bool true],aE p6 0 a.enc]
def ckI (C:bQ) (n:aQ) (p2 p3 p5 p6 l d:Nat) (e:Nat→Value) (rest:List (List Value)):HP:=sS fun x:List Int×aQ=>sp (ckC C n p2 p3 p5 p6 l d e rest x.1 x.2)
def ckJ (C:bQ) (n:aQ) (p2 p3 p5 p6 l d:Nat) (e:Nat→Value):HP:=sS fun a:aQ=>sp [zD ((oV C n (Bs n.kind.toNat) (Ck n.kind)).1=false),nE Pr 213 (nB 1786) 41 e d l (.done,some (.exit 0)),aE p2 0 C.enc,aE p3 0 n.enc,aE p5 0 [.bool false],aE p6 0 a.enc]
theorem zR {C:bQ} {n:aQ} {p2 p3 p5 p6 l d:Nat} {e:Nat→Value} {rest:List (List Value)} {fs:List Int} {a:aQ} (h1:rest=fs.map fun f=>[I f]) (h2:∀f∈fs,1≤f∧f≤13) (h3:oV C n fs a=oV C n (Bs n.kind.toNat) (Ck n.kind))
  (hs:Hs G h (sp [nE Pr 213 (nB 1786) 41 e d l (.ready,none),aE p2 0 C.enc,aE p3 0 n.enc,aE p5 0 [.bool true],aE p6 0 a.enc]::L)):Hs G h (ckI C n p2 p3 p5 p6 l d e rest::L):=
 Hs.wM (A:=fun x:List Int×aQ=>sp (ckC C n p2 p3 p5 p6 l d e rest x.1 x.2)) (fs,a) (vN h1 (vN h2 (vN h3 hs)))
theorem xH {C:bQ} {n:aQ} {p2 p3 p5 p6 l d:Nat} {e:Nat→Value} {rest:List (List Value)} (hs:Hs G h (ckI C n p2 p3 p5 p6 l d e rest::L)):∃fs a,(rest=fs.map fun f=>[I f])∧(∀f∈fs,1≤f∧f≤13)∧oV C n fs a=oV C n (Bs n.kind.toNat) (Ck n.kind)∧
  Hs G h (nE Pr 213 (nB 1786) 41 e d l (.ready,none)::aE p2 0 C.enc::aE p3 0 n.enc::aE p5 0 [.bool true]::aE p6 0 a.enc::L):=by
 obtain⟨⟨fs,a⟩,hs⟩:=Hs.Be hs
 obtain⟨h1,hs⟩:=gF hs
 obtain⟨h2,hs⟩:=gF hs
 obtain⟨h3,hs⟩:=gF hs
 exact⟨fs,a,h1,h2,h3,hs.unpack⟩
theorem aA8 {C:bQ} {n:aQ} {Q:Value→AH→Prop} (hkd:Ob G 2 tZ) (hl:Ob G 0 fB) (hs:Hs G h L) (hk:∀h',Hs G h' L→Q (I (wW C n)) h'):Cl Pr K 213 [.agg ⟨C.enc⟩,.agg ⟨n.enc⟩] h Q:=by
 unfold wW at hk
 refine cW (dJ hs ?_)
 intro p2 h hs
 refine dJ hs ?_
 intro p3 h hs
 refine aA (aC hs rfl (xV (bU (dI (aS (fun h1=>bW ?_) (fun h1=>jU ?_))))))
 ·rw[if_pos h1] at hk
  refine aN hs (by decide) (l:=C.enc) rfl rfl (lC hl hs fun h hs=>?_)
  by_cases hC:C.Ok
  ·rw[if_pos hC] at hk ⊢
   refine aX (aI (by omega) (bW (bK hs ?_)))
   intro p5 h hs
   refine bA hs rfl rfl rfl rfl ?_
   intro h hs
   refine aA (aC hs rfl (aK (c:=(Ck n.kind).enc) rfl (bK hs ?_)))
   intro p6 h hs
   refine bA hs rfl rfl rfl rfl ?_
   intro h hs
   obtain⟨m,hm,hm1,hm2⟩:=aBo h1
   refine aA (aC hs rfl ?_)
   rw[hm]
   refine Zq hs fun p h hs=>mW hs fun d h hs=>?_
   intro e he
   refine qP hs fun l h hs=>?_
   refine vZ (by kernel_rfl) ?_
   have hin:=wk (k:=m) hm2
   have hst:Hs G h (aE p 0 [I m]::ckI C n p2 p3 p5 p6 l d e ((Bs m).map fun f=>[I f])::mk d ()::L):=by
    refine Hs.kI (zR (fs:=Bs m) (a:=Ck n.kind) rfl hin (by rw[hm];rfl) ?_)
    exact hs.to
   clear hs
   refine gx hkd hm2 _ (ckJ C n p2 p3 p5 p6 l d e) _ _ h _ hst ?_ ?_ ?_
   ·intro x rest h M hs
    obtain⟨fs,a,h1,h2,h3,hq⟩:=xH hs
    clear hs
    cases fs with
    |nil=>cases h1
    |cons f fs=>
     simp only[List.map_cons,List.cons.injEq] at h1
     obtain⟨rfl,rfl⟩:=h1
     have hf:=h2 f List.mem_cons_self
     refine rW (xD hq) he ?_
     refine kA hq fun h hs=>?_
     refine aN (b:=p3) (o:=0) hs (by decide) (l:=n.enc) rfl rfl (Ds hf hs fun h hs=>?_)
     refine aN (b:=p2) (o:=0) hs (by decide) (l:=C.enc) rfl rfl (N4 hC hf hl hs fun h hs=>bU (dI (aS (fun hy=>?_) (fun hy=>?_))))
     ·refine yo (p:=p6) (n:=a) hf (hs.front (aE p6 0 a.enc)) fun h hs=>jS hs fun h hs=>?_
      refine .inl ⟨rfl,zR (fs:=fs) (a:=zl a f (ga n f)) rfl (fun g hg=>h2 g (List.mem_cons_of_mem _ hg)) ?_ hs.to⟩
      rw[←h3,oV,if_pos hy]
     ·refine bA hs rfl rfl rfl rfl ?_
      intro h hs
      refine jS hs fun h hs=> .inr ⟨rfl,?_⟩
      refine Hs.wM (A:=fun a:aQ=>sp [zD ((oV C n (Bs n.kind.toNat) (Ck n.kind)).1=false),nE Pr 213 (nB 1786) 41 e d l (.done,some (.exit 0)),aE p2 0 C.enc,aE p3 0 n.enc,aE p5 0 [.bool false],aE p6 0 a.enc]) a (vN ?_ hs.to)
      rw[←h3,oV,if_neg hy]
   ·intro v h' hs
    obtain⟨fs,a,h1,h2,h3,hs⟩:=xH hs.kI
    cases fs with
    |cons f fs=>cases h1
    |nil=>
     rw[oV] at h3
     rw[←h3] at hk
     refine qQ hs fun h' hs=>qL ?_
     refine aC hs rfl (bU ?_)
     refine(bS (aN (b:=p6) (o:=0) hs (by decide) (l:=a.enc) rfl rfl (aN (b:=p3) (o:=0) hs (by decide) (l:=n.enc) rfl rfl (neN (aS (fun hne=>?_) (fun hne=>?_))))))
     ·refine mH hs fun h' hs=>jU ?_
      have:=hk h' hs.to
      rwa [if_neg (fun e=>hne e.2)] at this
     ·refine mH hs fun h' hs=>jU ?_
      have:=hk h' hs.to
      rwa [if_pos ⟨rfl,by simpa using hne⟩] at this
   ·intro v h' hs
    obtain⟨a,hs⟩:=Hs.Be hs.kI
    obtain⟨h1,hs⟩:=gF hs
    have hs:=hs.unpack
    refine aAi hs (by decide) fun h' hs=>O7 rfl ?_
    refine aC hs rfl (bU ?_)
    refine(dY (mH hs fun h' hs=>jU ?_))
    have:=hk h' hs.to
    rwa [if_neg (fun e=>by rw[h1] at e;cases e.1)] at this
  ·rw[if_neg hC] at hk ⊢
   refine aX (bM (by omega) (jU (hk h hs.to)))
 ·rw[if_neg h1] at hk
  exact hk h hs.to
end Go.Proofs.YtajjljbmfdboaaaGreatDoor.N
end
section
open Go Go.Ab
attribute [local irreducible] aZ Br oM rI sQ Bi lE tH kU Qb gI lF pD pW oR kH zH tJ W2 Ut Qa Nn T3 P6 Km Lx T2 jR mX rV iO copyV iB vL Va Uo Fm kB Lu Sv Vn nF rH wK zB Cl wX T1 rM qX jI gS cI cA
section
namespace Go.Proofs.YtajjljbmfdboaaaGreatDoor
open Go Go.Ab Go.Hm Go.At Go.Mc
instance:Fx cT 2:=⟨fun _=>rfl,fun _=>rfl⟩
def j0 (p:Int×Int→Bool):List (Int×Int)→Nat→Int
 |[],_=> -1
 |x::l,i=>if p x then(i:Int) else j0 p l (i+1)
theorem Jc {p:Int×Int→Bool}:∀{l:List (Int×Int)} {i:Nat},(j0 p l i= -1∧(∀x∈l,p x=false))∨∃j x,j0 p l i=((i+j:Nat):Int)∧l[j]?=some x∧p x=true∧∀y∈l.take j,p y=false
 |[],i=> .inl ⟨rfl,fun _ h=>by cases h⟩
 |x::l,i=>by
  unfold j0
  split
  ·rename_i hp
   exact .inr ⟨0,x,by simp,rfl,hp,fun _ h=>by cases h⟩
  ·rename_i hp
   have hp:p x=false:=by simpa using hp
   rcases Jc (p:=p) (l:=l) (i:=i+1) with⟨h1,h2⟩|⟨j,y,h1,h2,h3,h4⟩
   ·refine .inl ⟨h1,fun z hz=>?_⟩
    rcases List.mem_cons.1 hz with rfl|hz
    ·exact hp
    ·exact h2 z hz
   ·refine .inr ⟨j+1,y,by rw[h1];congr 1;omega,by simpa using h2,h3,fun z hz=>?_⟩
    rw[List.take_succ_cons] at hz
    rcases List.mem_cons.1 hz with rfl|hz
    ·exact hp
    ·exact h4 z hz
def isG (g:Int) (x:Int×Int):Bool:=decide (x.1=g)
theorem yQ {g:Int} {l:List (Int×Int)}:(j0 (isG g) l 0= -1∧mM l g=none)∨∃(j:Nat) (x:Int×Int),j0 (isG g) l 0=(j:Int)∧l[j]?=some x∧mM l g=some x.2:=by
 rcases Jc (p:=isG g) (l:=l) (i:=0) with⟨h1,h2⟩|⟨j,x,h1,h2,h3,h4⟩
 ·refine .inl ⟨h1,?_⟩
  unfold mM
  rw[List.find?_eq_none.2 fun x hx=>by have:=h2 x hx;unfold isG at this;simpa using this]
  rfl
 ·refine .inr ⟨j,x,by rw[h1,Nat.zero_add],h2,?_⟩
  unfold mM
  have:l.find? (fun x=>decide (x.1=g))=some x:=by
   rw[List.find?_eq_some_iff_append]
   refine⟨h3,l.take j,l.drop (j+1),?_,fun y hy=>by have:=h4 y hy;unfold isG at this;simpa using this⟩
   obtain⟨hj,e⟩:=List.getElem?_eq_some_iff.1 h2
   rw[←e,←List.drop_eq_getElem_cons hj,List.take_append_drop]
  rw[this];rfl
set_option maxRecDepth 100000
variable {G:Bg} {h:AH} {L L':List HP} {Q:Value→AH→Prop} {C:bQ}
def vR (C:bQ) (s:lQ) (a:Option Addr) (c:Nat):List Value:=[.bool s.vH,I s.cB,I s.at',.bool s.sB,I C.entries,I C.bP,.slice a s.known.length c]
def iS (p:Nat) (C:bQ) (s:lQ):HP:=sS fun x:Option Addr×Nat=>sp [aE p 0 (vR C s x.1 x.2),ls cT 2 261 x.1 x.2 s.known]
theorem jX {p:Nat} {s:lQ} (hs:Hs G h (iS p C s::L)):∃a c,Hs G h (aE p 0 (vR C s a c)::ls cT 2 261 a c s.known::L):=by
 obtain⟨⟨a,c⟩,hs⟩:=hs.Be
 exact⟨a,c,hs.D2⟩
theorem eG (p:Nat) (C:bQ) (s:lQ) {a:Option Addr} {c:Nat} {cs:List Value} {l:List (Int×Int)} {L1 L2:List HP} (hs:Hs G h L) [m:Has (aE p 0) L cs L1] [m2:Has (ls cT 2 261 a c) L1 l L2] (h1:cs=vR C s a c) (h2:l=s.known):Hs G h (iS p C s::L2):=by
 subst h1;subst h2
 exact Hs.wM (A:=fun x:Option Addr×Nat=>sp [aE p 0 (vR C s x.1 x.2),ls cT 2 261 x.1 x.2 s.known]) (a,c) (Hs.pack (A:=[_,_]) (hs.perm (m.perm.trans (m2.perm.cons _))))
theorem cx (hC:C.Ok) (hs:Hs G h L) (hk:∀p h',Hs G h' (iS p C Ft::L)→Q (.tuple ⟨[pt p 0 0,I 0]⟩) h'):Cl Pr K 84 [I C.entries,I C.bP] h Q:=by
 have hC':=hC
 unfold bQ.Ok at hC'
 refine cW (aU (aI (by omega) (kG (aI (by omega) (aU (aI (by omega) (kG (aI (by omega) ?_))))))))
 refine aK (c:=vR C Ft none 0) rfl (dJ hs fun p h hs=>hk _ _ ?_)
 exact eG p C Ft (a:=none) (c:=0) ((sL (enc:=cT) (W:=2) (e:=261) hs)) rfl rfl
theorem Cy {a:Option Addr} {c:Nat} {l:List (Int×Int)} (hb:l.length≤100) (hs:Hs G h L) [m:Has (ls cT 2 261 a c) L l L']
  (hk:∀a' c' h',Hs G h' (ls cT 2 261 a' c' l::ls cT 2 261 a c l::L')→Q (.slice a' l.length c') h'):Cl Pr K 131 [.slice a l.length c] h Q:=
 cW (yL (e:=261) (show Hs G h (dB 2 261 a c (l.length,eL cT l)::L') from m.of hs) (by omega) hk)
theorem Ag {p:Nat} {s:lQ} (hb:s.known.length≤100) (hs:Hs G h L) [m:Has (iS p C) L s L'] (hk:∀q h',Hs G h' (iS q C s::iS p C s::L')→Q (pt q 0 0) h'):Cl Pr K 81 [pt p 0 0] h Q:=by
 obtain⟨a,c,hs⟩:=jX (m.of hs)
 refine cW (cS (bS (bW (aB (aN (b:=p) (o:=0) hs (by decide) (l:=vR C s a c) rfl rfl (bK hs fun q h hs=>bA hs rfl rfl rfl rfl fun h hs=>?_))))))
 refine aB (aA (aC (b:=p) (o:=0) hs rfl (Cy (a:=a) (c:=c) (l:=s.known) hb hs fun a' c' h hs=>aA (bE (b:=q) (o:=0) hs rfl rfl rfl rfl fun h hs=>hk _ _ ?_))))
 have hs:=eG p C s (a:=a) (c:=c) (hs.cN (aE p 0 (vR C s a c)) (ls cT 2 261 a c s.known)) rfl rfl
 exact(eG q C s (a:=a') (c:=c') hs rfl rfl)
def uz (G:Bg) (f:Value) (A:HP) (p:Int×Int→Bool):Prop:=∀(x:Int×Int) (h:AH) (L:List HP) (Q:Value→AH→Prop),Hs G h (A::L)→(∀h',Hs G h' (A::L)→Q (.bool (p x)) h')→wX Pr K f [.agg ⟨cT x⟩] h Q
theorem Tq {f:Value} {A:HP} {p:Int×Int→Bool} (hf:uz G f A p) {a:Option Addr} {c:Nat} {l:List (Int×Int)} (hb:l.length≤1000) (hs:Hs G h (A::ls cT 2 261 a c l::L))
  (hk:∀h',Hs G h' (A::ls cT 2 261 a c l::L)→Q (I (j0 p l 0)) h'):Cl Pr K 287 [.slice a l.length c,f] h Q:=by
 refine cW (bZ ?_)
 have loop:∀(k i:Nat) (h:AH),i+k=l.length→j0 p l 0=j0 p (l.drop i) i→Hs G h (A::ls cT 2 261 a c l::L)→Dd 287 1 [] Q [(.slice a l.length c),f,(I l.length),(I i)] h:=by
  intro k
  induction k with
  |zero=>
   intro i h hi he hs
   rw[List.drop_of_length_le (by omega)] at he
   refine bW (aU (aI (by omega) ?_))
   have:=hk _ hs
   rw[he] at this
   exact this
  |succ k ih=>
   intro i h hi he hs
   obtain⟨x,hx,hd⟩:=lU (l:=l) (i:=i) (by omega)
   rw[hd,j0] at he
   refine bW (aU (bM (by omega) (bW (tE (l:=l) (a:=a) (c:=c) (enc:=cT) (e:=261) hs (by decide) (by omega) (by rw[Int.toNat_natCast];exact hx) (hf x h _ _ hs fun h hs=>dA (fun h1=>?_) (fun h1=>?_))))))
   ·have:=hk _ hs
    rw[he,if_pos h1] at this
    exact this
   ·rw[if_neg (by rw[h1];simp)] at he
    exact bW (bI (by omega) (ih (i+1) h (by omega) he hs))
 exact loop l.length 0 h (by omega) (by rw[List.drop_zero]) hs
theorem zc {p:Nat} {g:Int}:uz G (.func (.func 288) #[] #[pt p 0 0]) (aE p 0 [I g]) (isG g):=by
 intro x h L Q hs hk
 refine oN rfl (cW (dJ hs fun q h hs=>aA (aC (b:=q) (o:=0) hs rfl (aC (b:=p) (o:=0) hs rfl (bC (hk _ hs.tail))))))
theorem G3 {p:Nat} {s:lQ} {g:Int} (hb:s.known.length≤100) (hs:Hs G h L) [m:Has (iS p C) L s L'] (hk:∀h',Hs G h' (iS p C s::L')→Q (I (j0 (isG g) s.known 0)) h'):Cl Pr K 242 [pt p 0 0,I g] h Q:=by
 obtain⟨a,c,hs⟩:=jX (m.of hs)
 refine cW (dJ hs fun q h hs=>aB (aA (aC (b:=p) (o:=0) hs rfl ?_)))
 have hs:Hs G h (aE q 0 [I g]::ls cT 2 261 a c s.known::aE p 0 (vR C s a c)::L'):=hs.to
 refine Tq zc (by omega) hs fun h hs=>hk _ ?_
 exact(eG p C s (a:=a) (c:=c) hs rfl rfl).to
theorem fi {p:Nat} {s:lQ} {w g:Int} (hb:s.known.length≤100) (hs:Hs G h L) [m:Has (iS p C) L s L'] (hk:∀h',Hs G h' (iS p C s::L')→Q (.tuple ⟨[I (s.ask C w g).1,I (s.ask C w g).2]⟩) h'):Cl Pr K 192 [pt p 0 0,I w,I g] h Q:=by
 obtain⟨a,c,hs⟩:=jX (m.of hs)
 unfold lQ.ask at hk
 have hsC:∀{h:AH},Hs G h (aE p 0 (vR C s a c)::ls cT 2 261 a c s.known::L')→Hs G h (iS p C s::L'):=fun hs=>eG p C s (a:=a) (c:=c) hs rfl rfl
 refine cW (cS (bS (bW (aU (aS (fun h1=>?_) (fun h1=>aB (aA (aC (b:=p) (o:=0) hs rfl (dM (aS (fun h2=>?_) (fun h2=>aU (aS (fun h3=>?_) (fun h3=>kG (aS (fun h4=>?_) (fun h4=>?_)))))))))))))))
 ·rw[if_neg (by omega)] at hk;exact hk _ (hsC hs)
 ·rw[if_neg (by omega)] at hk;exact hk _ (hsC hs)
 ·rw[if_neg (by omega)] at hk;exact hk _ (hsC hs)
 ·rw[if_neg (by omega)] at hk;exact hk _ (hsC hs)
 ·rw[if_pos (by omega)] at hk
  refine bW (G3 (C:=C) hb (hsC hs) fun h hs=>aU (aS (fun h5=>?_) (fun h5=>?_)))
  ·rcases yQ (g:=g) (l:=s.known) with⟨e1,e2⟩|⟨j,x,e1,e2,e3⟩
   ·rw[e2] at hk;exact hk _ hs
   ·omega
  ·rcases yQ (g:=g) (l:=s.known) with⟨e1,e2⟩|⟨j,x,e1,e2,e3⟩
   ·omega
   ·rw[e3] at hk
    rw[e1]
    obtain⟨a,c,hs⟩:=jX hs
    refine bW (aB (aA (aC (b:=p) (o:=0) hs rfl (J6 (l:=s.known) (a:=a) (c:=c) (enc:=cT) (e:=261) hs (by omega) (by rw[Int.toNat_natCast];exact e2) rfl (Pa (dA (fun h6=>?_) (fun h6=>?_)))))))
    ·simp only[h6,if_true] at hk
     exact hk _ (eG p C s (a:=a) (c:=c) hs rfl rfl)
    ·simp only[h6] at hk
     exact hk _ (eG p C s (a:=a) (c:=c) hs rfl rfl)
theorem Rw {p:Nat} {s:lQ} {g:Int} (hC:C.Ok) (hb:s.known.length≤100) (hs:Hs G h L) [m:Has (iS p C) L s L'] (hk:∀h',Hs G h' (iS p C (s.begin C g).1::L')→Q (.tuple ⟨[I (s.begin C g).2.1,I (s.begin C g).2.2]⟩) h'):Cl Pr K 244 [pt p 0 0,I g] h Q:=by
 have hg:=hC.2.1.2
 obtain⟨a,c,hs⟩:=jX (m.of hs)
 unfold lQ.begin at hk
 have hsC:∀{h:AH},Hs G h (aE p 0 (vR C s a c)::ls cT 2 261 a c s.known::L')→Hs G h (iS p C s::L'):=fun hs=>eG p C s (a:=a) (c:=c) hs rfl rfl
 refine cW (cS (bS (bW (aU (aS (fun h1=>?_) (fun h1=>aB (aA (aC (b:=p) (o:=0) hs rfl (dM (aS (fun h2=>?_) (fun h2=>?_)))))))))))
 ·rw[if_pos (by omega)] at hk;exact hk _ (hsC hs)
 ·rw[if_pos (by omega)] at hk;exact hk _ (hsC hs)
 rw[if_neg (by omega)] at hk
 refine bW (G3 (C:=C) hb (hsC hs) fun h hs=>dM (aS (fun h3=>?_) (fun h3=>?_)))
 ·rcases yQ (g:=g) (l:=s.known) with⟨e1,e2⟩|⟨j,x,e1,e2,e3⟩
  ·omega
  ·rw[e3] at hk;exact hk _ hs
 ·rcases yQ (g:=g) (l:=s.known) with⟨e1,e2⟩|⟨j,x,e1,e2,e3⟩
  ·rw[e2] at hk
   simp only[Option.isSome_none,Bool.false_eq_true,if_false] at hk
   obtain⟨a,c,hs⟩:=jX hs
   refine bW (aB (aA (aA (aC (b:=p) (o:=0) hs rfl (dA (fun h4=>?_) (fun h4=>?_))))))
   ·simp only[h4,if_true] at hk
    exact hk _ (eG p C s (a:=a) (c:=c) hs rfl rfl)
   ·simp only[h4,Bool.false_eq_true,if_false] at hk
    refine bW (sZ (by omega) (aG rfl (aG rfl (aX (aI (by omega) (bW (aK (c:=[.bool true,I g,I (g/4),.bool false]) rfl (aB (aA (bE (b:=p) (o:=0) hs rfl rfl rfl rfl fun h hs=>hk _ ?_))))))))))
    exact eG p C (s.start g) (a:=a) (c:=c) hs rfl rfl
  ·omega
end Go.Proofs.YtajjljbmfdboaaaGreatDoor
end
section
namespace Go.Proofs.YtajjljbmfdboaaaGreatDoor
open Go Go.Ab Go.Hm Go.At Go.Mc
theorem aAb (m:Nat):(eB [I 0,I 0] m).length=m*2∧(eB [I 0,I 0] m).all eE=true:=by
 have:eB [I 0,I 0] m=eL cT (List.replicate m (0,0)):=by
  induction m with
  |zero=>rfl
  |succ m ih=>rw[List.replicate_succ,oG,←ih];rfl
 rw[this]
 exact⟨by rw[A2,List.length_replicate],Iy⟩
set_option maxRecDepth 100000
variable {G:Bg} {h:AH} {L L':List HP} {Q:Value→AH→Prop} {C:bQ}
theorem Wr {a:Option Addr} {c:Nat} {l:List (Int×Int)} (hl:0<l.length) (hs:Hs G h L) [m:Has (ls cT 2 261 a c) L l L']
  (hk:∀h',Hs G h' (ls cT 2 261 a c (l.drop 1)::L')→Q (.slice a (l.drop 1).length c) h'):Cl Pr K 304 [.slice a l.length c,I 0,I 1] h Q:=by
 have hs:Hs G h (dB 2 261 a c (l.length,eL cT l)::L'):=m.of hs
 have hcap:l.length≤c:=by
  obtain⟨r,r2,⟨_,_,hr⟩,_⟩:=hs.fst
  rcases hr with⟨hz,_⟩|⟨hz,_⟩|⟨hcap,_⟩
  ·simp only at hz;omega
  ·simp only at hz;omega
  ·exact hcap
 obtain⟨b,o,ha,_⟩:=hs.mP hl
 refine cW (bZ ?_)
 refine V5 (v:= .slice (some ⟨b,o+0*2,none⟩) (0+1 - 0) (l.length - 0)) ?_ ?_
 ·subst ha
  have b1:jM (some (I l.length)) c c=some l.length:=by simp only[jM];rw[if_pos (by omega)];simp
  have b2:jM (some (I 1)) l.length l.length=some 1:=by simp only[jM];rw[if_pos (by omega)];rfl
  have b3:jM (some (I 0)) 0 1=some 0:=by simp only[jM];rw[if_pos (by omega)];rfl
  have hne:¬l.length=0:=by omega
  simp only[vL,b1,b2,b3,Option.isNone_some,Bool.false_and,Option.isSome_none,Bool.false_eq_true,if_false,hne,cQ]
  rw[if_pos (by omega)]
 refine bC (aI (by omega) (bW (bZ (aR hs ?_))))
 intro r h hs
 refine xn (i:=0) (by decide) rfl rfl hl hs ?_
 intro h hs
 have e:(eL cT l).take (0*2)++(eL cT l).drop ((0+1)*2)=eL cT (l.drop 1):=by rw[Nl];simp
 rw[e] at hs
 have:=hk h
 rw[List.length_drop] at this
 refine this ?_
 unfold ls
 rw[List.length_drop]
 exact hs.to
theorem ru {p:Nat} {s:lQ} {x:Int×Int} (hC:C.Ok) (hb:s.known.length≤100) (hs:Hs G h L) [m:Has (iS p C) L s L'] (hk:∀h',Hs G h' (iS p C (s.Hh C x)::L')→Q (.tuple ⟨[]⟩) h'):Cl Pr K 259 [pt p 0 0,.agg ⟨cT x⟩] h Q:=by
 have hg:1≤C.entries∧C.entries≤8:=hC.2.2.2.2.2.1
 obtain⟨a,c,hs⟩:=jX (m.of hs)
 unfold lQ.Hh at hk
 refine cW (dJ hs fun q h hs=>aR hs fun r1 h hs=>?_)
 refine aB (aA (aC (b:=p) (o:=0) hs rfl (bZ (aB (aA (aC (b:=p) (o:=0) hs rfl (dM (aS (fun h1=>?_) (fun h1=>?_)))))))))
 ·rw[if_pos h1] at hk
  refine bW (aB (aA (aC (b:=p) (o:=0) hs rfl (Wr (a:=a) (c:=c) (l:=s.known) (by omega) hs fun h hs=>?_))))
  refine aB (aA (bE (b:=p) (o:=0) hs rfl rfl rfl rfl fun h hs=>aR hs fun r2 h hs=>aB (aA (aC (b:=p) (o:=0) hs rfl (aN (b:=q) (o:=0) hs (by decide) (l:=cT x) rfl rfl (aK (c:=cT x) rfl (iJ (i:=6) (N:=11) (D:=[]) hs rfl rfl rfl rfl rfl fun a2 h hs=>?_)))))))
  refine rX (enc:=cT) (W:=2) (e:=261) (a:=a) (c:=c) (l:=s.known.drop 1) (a2:=some a2) (c2:=1) (l2:=[x]) (show Hs G h (ls cT 2 261 (some a2) 1 [x]::_) from hs) (by simp;omega) fun a' c' h hs=>?_
  refine aB (aA (bE (b:=p) (o:=0) hs rfl rfl rfl rfl fun h hs=>cJ cZ (hk _ ?_)))
  exact(eG p C {s with known:=s.known.drop 1++[x]} (a:=a') (c:=c') hs rfl rfl).to
 ·rw[if_neg h1] at hk
  refine aR hs fun r2 h hs=>aB (aA (aC (b:=p) (o:=0) hs rfl (aN (b:=q) (o:=0) hs (by decide) (l:=cT x) rfl rfl (aK (c:=cT x) rfl (iJ (r:=r2) (i:=6) (N:=11) (D:=[]) hs rfl rfl rfl rfl rfl fun a2 h hs=>?_)))))
  refine rX (enc:=cT) (W:=2) (e:=261) (a:=a) (c:=c) (l:=s.known) (a2:=some a2) (c2:=1) (l2:=[x]) (show Hs G h (ls cT 2 261 (some a2) 1 [x]::_) from hs) (by simp;omega) fun a' c' h hs=>?_
  refine aB (aA (bE (b:=p) (o:=0) hs rfl rfl rfl rfl fun h hs=>cJ cZ (hk _ ?_)))
  exact(eG p C {s with known:=s.known++[x]} (a:=a') (c:=c') hs rfl rfl).to
theorem eu {p:Nat} {s:lQ} {at' w:Int} (hC:C.Ok) (hb:s.known.length≤100) (hgr:0≤s.cB∧s.cB<C.bP) (hw:0≤w∧w≤1000000) (hs:Hs G h L) [m:Has (iS p C) L s L']
  (hk:∀h',Hs G h' (iS p C (s.walked C at' w).1::L')→Q (.tuple ⟨[I (s.walked C at' w).2.1,.bool (s.walked C at' w).2.2.1,I (s.walked C at' w).2.2.2]⟩) h'):Cl Pr K 206 [pt p 0 0,I at',I w] h Q:=by
 have hg:=hC.2.1
 obtain⟨a,c,hs⟩:=jX (m.of hs)
 unfold lQ.walked at hk
 have hsC:∀{h:AH},Hs G h (aE p 0 (vR C s a c)::ls cT 2 261 a c s.known::L')→Hs G h (iS p C s::L'):=fun hs=>eG p C s (a:=a) (c:=c) hs rfl rfl
 refine cW (cS (bS (bW (aB (aA (aA (aC (b:=p) (o:=0) hs rfl (bU (dI (dA (fun h1=>?_) (fun h1=>?_)))))))))))
 rotate_left
 ·rw[if_pos h1] at hk;exact hk _ (hsC hs)
 rw[if_neg (by rw[h1];simp)] at hk
 refine bW (aB (aA (aA (aC (b:=p) (o:=0) hs rfl (aX (aS (fun h2=>?_) (fun h2=>?_)))))))
 ·rw[if_pos h2] at hk;exact hk _ (hsC hs)
 rw[if_neg h2] at hk
 refine bW (aB (aA (aA (aC (b:=p) (o:=0) hs rfl (sZ (by omega) (aG rfl (aG rfl (aX (aI (by omega) (bW (aB (aA (aA (aC (b:=p) (o:=0) hs rfl (dA (fun h3=>?_) (fun h3=>?_))))))))))))))))
 ·rw[if_pos h3] at hk
  refine bW (aB (aA (aA (bE (b:=p) (o:=0) hs rfl rfl rfl rfl fun h hs=>aB (aA (aA (bE (b:=p) (o:=0) hs rfl rfl rfl rfl fun h hs=>hk _ ?_)))))))
  exact eG p C s.fresh (a:=a) (c:=c) hs rfl rfl
 rw[if_neg (by rw[h3];simp)] at hk
 refine bW (aR hs fun r1 h hs=>aB (aA (aC (b:=p) (o:=0) hs rfl (aB (aA (aA (aC (b:=p) (o:=0) hs rfl (lg (n:=C.bP) (g:=s.cB) ⟨hg,hgr⟩ hw hs fun h hs=>?_))))))))
 generalize G9 C.bP s.cB at' w=r at hk
 obtain⟨nx,x,ov,e⟩:=r
 simp only at hk ⊢
 refine aG rfl (aG rfl (aG rfl (aG rfl (jN (i:=17) (n:=22) (D:=[]) hs rfl rfl fun p15 h hs=>bA (b:=p15) hs rfl rfl rfl rfl fun h hs=>cJ (aG rfl aCs) (cJ (aG rfl gW) (aX (aS (fun h4=>?_) (fun h4=>?_))))))))
 ·rw[if_pos h4] at hk;exact hk _ (hsC hs.to)
 rw[if_neg h4] at hk
 have fin10:∀{h:AH} {M:List HP} (v:Int) (s':lQ),[Sub M L']→vR C s' a c=dH (vR C s a c) 2 [I v]→s'.known=s.known→Hs G h (aE p 0 (vR C s a c)::ls cT 2 261 a c s.known::M)→(∀h',Hs G h' (iS p C s'::L')→Q (.tuple ⟨[I v,.bool false,I 0]⟩) h')→Dd 206 10 [] Q [(pt p 0 0),(I v)] h:=by
  intro h M v s' _ he hk' hs hq
  refine bW (aB (aA (aA (bE (b:=p) (o:=0) hs rfl rfl rfl rfl fun h hs=>hq _ ?_))))
  have:=eG p C s' (a:=a) (c:=c) hs he.symm hk'.symm
  exact this.to
 have fin11:∀{h:AH},Hs G h (aE p15 0 x.enc::aE p 0 (vR C s a c)::ls cT 2 261 a c s.known::L')→(∀h',Hs G h' (iS p C (s.Hh C (s.cB,x.owner)).done::L')→Q (.tuple ⟨[I 0,.bool true,I 0]⟩) h')→Dd 206 11 [] Q [(pt p 0 0),(pt p15 0 0)] h:=by
  intro h hs hq
  refine bW (aR hs fun r2 h hs=>aB (aA (aA (aC (b:=p) (o:=0) hs rfl (aA (aC (b:=p15) (o:=0) hs rfl (aK (c:=cT (s.cB,x.owner)) rfl ?_)))))))
  have hs:=eG p C s (a:=a) (c:=c) hs rfl rfl
  refine ru hC hb hs fun h hs=>?_
  obtain⟨a3,c3,hs⟩:=jX hs
  refine aK (c:=[.bool false,I 0,I 0,.bool false]) rfl (aB (aA (bE (b:=p) (o:=0) hs rfl rfl rfl rfl fun h hs=>hq _ ?_)))
  exact(eG p C (s.Hh C (s.cB,x.owner)).done (a:=a3) (c:=c3) hs rfl rfl).to
 have hs:Hs G h (aE p15 0 x.enc::aE p 0 (vR C s a c)::ls cT 2 261 a c s.known::L'):=hs.to
 refine bW (dA (fun h5=>?_) (fun h5=>?_))
 ·subst h5
  refine aA (aC (b:=p15) (o:=0) hs rfl (dA (fun h6=>?_) (fun h6=>?_)))
  ·rw[if_pos ⟨rfl,h6⟩] at hk
   exact bW (bU (dY (fin10 (M:=aE p15 0 x.enc::L') (s.cB/4) (s.goto (s.cB/4)) rfl rfl hs.to hk)))
  ·rw[if_neg (by rw[h6];simp),if_neg (by simp)] at hk
   exact bW (bU (bS (fin11 hs hk)))
 ·subst h5
  rw[if_neg (by simp),if_pos rfl] at hk
  exact bU (dY (fin10 (M:=aE p15 0 x.enc::L') nx (s.goto nx) rfl rfl hs.to hk))
def oA (g:Int) (x:Int×Int):Bool:=decide (g= -1∨x.1=g)
theorem Zt {p q:Nat} {g:Int}:uz G (.func (.func 262) #[] #[pt p 0 0]) (sp [aE p 0 [.func (.func 260) #[] #[pt q 0 0]],aE q 0 [I g]]) (oA g):=by
 intro x h L Q hs hk
 have hs:=hs.D2
 have hkT:∀{h:AH} {M:List HP} {b:Bool},[Sub M L]→b=oA g x→Hs G h (aE p 0 [.func (.func 260) #[] #[pt q 0 0]]::aE q 0 [I g]::M)→Q (.bool b) h:=by
  intro h M b _ hb hs
  show Q _ _
  rw[hb]
  exact hk _ (Hs.Ex hs.to)
 refine oN rfl (cW (dJ hs fun r h hs=>aC (b:=p) (o:=0) hs rfl (aA (aC (b:=r) (o:=0) hs rfl ?_))))
 refine oN rfl (cW (aC (b:=q) (o:=0) hs rfl (bC (aS (fun h1=>?_) (fun h1=>aC (b:=q) (o:=0) hs rfl (bC ?_))))))
 ·exact hkT (M:=aE r 0 (cT x)::L) (by unfold oA;rw[decide_eq_true (.inl h1)]) hs.to
 ·exact hkT (M:=aE r 0 (cT x)::L) (by unfold oA;exact decide_eq_decide.2 (by omega)) hs.to
theorem Wm {f:Value} {A:HP} {p:Int×Int→Bool} (hf:uz G f A p) {a:Option Addr} {c:Nat} {l:List (Int×Int)} (hb:l.length≤1000) (hs:Hs G h (A::ls cT 2 261 a c l::L))
  (hk:∀h',Hs G h' (A::ls cT 2 261 a c (l.filter fun x=> !p x)::L)→Q (.slice a (l.filter fun x=> !p x).length c) h'):Cl Pr K 261 [.slice a l.length c,f] h Q:=by
 refine cW (Tq hf hb hs fun h hs=>?_)
 rcases Jc (p:=p) (l:=l) (i:=0) with⟨e1,e2⟩|⟨j,x,e1,e2,e3,e4⟩
 ·rw[e1]
  have ef:l.filter (fun x=> !p x)=l:=List.filter_eq_self.2 fun x hx=>by rw[e2 x hx];rfl
  rw[ef] at hk
  exact bC (bM (by omega) (hk _ hs))
 rw[e1]
 have hjl:=(List.getElem?_eq_some_iff.1 e2).1
 refine bC (aI (by omega) (bW (bI (by omega) ?_)))
 have loop:∀(k i:Nat) (m:List (Int×Int)) (h:AH),i+k=l.length→m.length<i→m=(l.take i).filter (fun x=> !p x)→∀t:List (Int×Int),(m++t).length=i→Hs G h (A::ls cT 2 261 a c (m++t++l.drop i)::L)→
   Dd 261 2 [] Q [(.slice a l.length c),f,(I m.length),(I i)] h:=by
  intro k
  induction k with
  |zero=>
   intro i m h hi hm he t ht hs
   have hil:i=l.length:=by omega
   refine bW (bZ (aU (aI (by omega) (bW ?_))))
   rw[hil,List.take_length] at he
   rw[hil,List.drop_length,List.append_nil] at hs
   have hs:Hs G h (dB 2 261 a c ((m++t).length,eL cT (m++t))::A::L):=hs.kI
   have hll:(m++t).length=l.length:=by omega
   rw[←hll]
   refine aCf (n:=(m++t).length) (i:=m.length) (e:=261) (cs:=eL cT (m++t)) (by decide) aAb (by omega) hs fun h hs=>?_
   have:=hk h
   rw[←he] at this
   refine this ?_
   rw[Xf,List.take_left] at hs
   exact hs.kI
  |succ k ih=>
   intro i m h hi hm he t ht hs
   obtain⟨y,hy,hd⟩:=lU (l:=l) (i:=i) (by omega)
   have hlen:(m++t++l.drop i).length=l.length:=by rw[List.length_append,ht,List.length_drop];omega
   have hyi:(m++t++l.drop i)[i]?=some y:=by rw[List.getElem?_append_right (by omega),ht,Nat.sub_self,hd];rfl
   have htk:l.take (i+1)=l.take i++[y]:=by rw[List.take_add_one,hy];rfl
   refine bW (bZ (aU (bM (by omega) (bW ?_))))
   rw[←hlen]
   refine tE (l:=m++t++l.drop i) (a:=a) (c:=c) (enc:=cT) (e:=261) hs (by decide) (by omega) (by rw[Int.toNat_natCast];exact hyi) (bK hs fun p3 h hs=>bA hs rfl rfl rfl rfl fun h hs=>aN (b:=p3) (o:=0) hs (by decide) (l:=cT y) rfl rfl ?_)
   refine hf y h _ _ (hs.front A) fun h hs=>bU (dI (dA (fun h1=>?_) (fun h1=>?_)))
   ·refine bW (bI (by omega) ?_)
    have:=ih (i+1) m h (by omega) (by omega) (by rw[htk,List.filter_append,←he];simp[h1]) (t++[y]) (by simp at ht ⊢;omega)
    rw[hlen]
    refine this ?_
    rw[show m++(t++[y])++l.drop (i+1)=m++t++l.drop i by rw[hd];simp]
    exact hs.to
   ·refine bW (aN (b:=p3) (o:=0) hs (by decide) (l:=cT y) rfl rfl ?_)
    refine X9 (l:=m++t++l.drop i) (a:=a) (c:=c) (enc:=cT) (e:=261) (y:=y) hs (by decide) (by omega) (by omega) fun h hs=>?_
    cases t with
    |nil=>simp at ht;omega
    |cons z t=>
     refine bI (by omega) (bI (by omega) ?_)
     have:=ih (i+1) (m++[y]) h (by omega) (by simp;omega) (by rw[htk,List.filter_append,←he];simp[h1]) (t++[y]) (by simp at ht ⊢;omega)
     rw[List.length_append] at this
     rw[hlen]
     refine this ?_
     have e5:(m++z::t++l.drop i).set ((m.length:Int)).toNat y=m++[y]++(t++[y])++l.drop (i+1):=by
      rw[Int.toNat_natCast,hd,List.append_assoc,List.set_append_right _ _ (Nat.le_refl _),Nat.sub_self]
      simp
     rw[←e5]
     exact hs.to
 have:=loop (l.length - (j+1)) (j+1) (l.take j) h (by omega) (by rw[List.length_take];omega) ?_ [x] ?_ ?_
 ·rw[List.length_take,Nat.min_eq_left (by omega)] at this
  rw[Nat.zero_add]
  exact this
 ·rw[List.take_add_one,e2,List.filter_append]
  rw[List.filter_eq_self.2 fun y hy=>by rw[e4 y hy];rfl]
  simp[e3]
 ·simp;omega
 ·rw[show l.take j++[x]++l.drop (j+1)=l by
   obtain⟨hj,ex⟩:=List.getElem?_eq_some_iff.1 e2
   rw[←ex,List.append_assoc,List.singleton_append,←List.drop_eq_getElem_cons hj,List.take_append_drop]]
  exact hs
end Go.Proofs.YtajjljbmfdboaaaGreatDoor
end
section
namespace Go.Proofs.YtajjljbmfdboaaaGreatDoor
open Go Go.Ab Go.Hm Go.At Go.Mc
set_option maxRecDepth 100000
variable {G:Bg} {h:AH} {L L':List HP} {Q:Value→AH→Prop} {C:bQ}
theorem V0 {p:Nat} {s:lQ} {g:Int} (hb:s.known.length≤100) (hs:Hs G h L) [m:Has (iS p C) L s L']
  (hk:∀n h',Hs G h' (iS p C (s.drop C g).1::L')→Q (.tuple ⟨[I n,I (s.drop C g).2]⟩) h'):Cl Pr K 208 [pt p 0 0,I g] h Q:=by
 obtain⟨a,c,hs⟩:=jX (m.of hs)
 unfold lQ.drop at hk
 have hsC:∀{h:AH} {M:List HP},[Sub M L']→Hs G h (aE p 0 (vR C s a c)::ls cT 2 261 a c s.known::M)→Hs G h (iS p C s::L'):=fun hs=>(eG p C s (a:=a) (c:=c) hs rfl rfl).to
 refine cW (dJ hs fun q h hs=>cS (bS (bW (aR hs fun r h hs=>aC (b:=q) (o:=0) hs rfl (aU (aS (fun h1=>?_) (fun h1=>?_)))))))
 ·rw[if_pos (.inl h1)] at hk
  exact hk _ _ (hsC (M:=aE q 0 [I g]::L') hs.to)
 refine aC (b:=q) (o:=0) hs rfl (aB (aA (aC (b:=p) (o:=0) hs rfl (dM (aS (fun h2=>?_) (fun h2=>?_))))))
 ·rw[if_pos (.inr h2)] at hk
  exact hk _ _ (hsC (M:=aE q 0 [I g]::L') hs.to)
 rw[if_neg (by omega)] at hk
 dsimp only at hk
 refine bW (bK hs fun p1 h hs=>bA (b:=p1) hs rfl rfl rfl rfl fun h hs=>aB (aA (aC (b:=p) (o:=0) hs rfl (bZ (aB (aA (aC (b:=p) (o:=0) hs rfl ?_)))))))
 have hs:=hs.cN (aE p1 0 [.func (.func 260) #[] #[pt q 0 0]]) (aE q 0 [I g])
 have hs:=hs.Ex
 have hs:=hs.cN (sp [aE p1 0 [.func (.func 260) #[] #[pt q 0 0]],aE q 0 [I g]]) (ls cT 2 261 a c s.known)
 refine Wm (Zt (p:=p1) (q:=q) (g:=g)) (by omega) hs fun h hs=>?_
 have hs:=hs.D2
 refine aB (aA (bE (b:=p) (o:=0) hs rfl rfl rfl rfl fun h hs=>aR hs fun r2 h hs=>aB (aA (aA (aC (b:=p) (o:=0) hs rfl ?_)))))
 have ek:s.known.filter (fun x=> !oA g x)=s.known.filter (fun x=> !decide (g= -1∨x.1=g)):=rfl
 have tail:∀{h:AH} {M:List HP} (st:Bool),[Sub M L']→Hs G h (aE p 0 [.bool s.vH,I s.cB,I s.at',.bool st,I C.entries,I C.bP,.slice a (s.known.filter fun x=> !oA g x).length c]::ls cT 2 261 a c (s.known.filter fun x=> !oA g x)::M)→
   st=(s.sB||(s.vH&&decide (g= -1∨s.cB=g)))→∀n:Int,Q (.tuple ⟨[I n,I 0]⟩) h:=by
  intro h M st _ hs hst n
  refine hk n h ?_
  rw[←hst]
  have:=eG p C {s with known:=s.known.filter fun x=> !oA g x,sB:=st} (a:=a) (c:=c) hs rfl rfl
  exact(show Hs G h (iS p C {s with known:=s.known.filter (fun x=> !decide (g= -1∨x.1=g)),sB:=st}::M) from this).to
 refine dA (fun h3=>?_) (fun h3=>?_)
 ·refine aC (b:=p1) (o:=0) hs rfl (aB (aA (aA (aC (b:=p) (o:=0) hs rfl ?_))))
  refine oN rfl (cW (aC (b:=q) (o:=0) hs rfl (bC ?_)))
  have go:∀{b:Bool},b=decide (g= -1∨s.cB=g)→Br (.bool b) (Dd 208 3 [] Q [(pt p 0 0),(I s.known.length)] h) (aZ (lF (pt p 0 0)) fun v26=>aZ (gI 6 v26) fun v27=>aZ (oM h v27) fun v28=>aZ (kH v28) fun v29=>aZ (tJ .sub (I s.known.length) v29) fun v30=>Q (.tuple ⟨[v30,(I 0)]⟩) h):=by
   intro b hb'
   have hfl:=List.length_filter_le (fun x=> !oA g x) s.known
   refine dA (fun h5=>?_) (fun h5=>?_)
   ·refine bW (aB (aA (aA (bE (b:=p) (o:=0) hs rfl rfl rfl rfl fun h hs=>aB (aA (aC (b:=p) (o:=0) hs rfl (bZ (A4 (by omega) ?_))))))))
    refine tail (M:=aE p1 0 [.func (.func 260) #[] #[pt q 0 0]]::aE q 0 [I g]::L') true (hs.sg (b:=p) (o:=0) (c:=[.bool s.vH,I s.cB,I s.at',.bool true,I C.entries,I C.bP,.slice a (s.known.filter fun x=> !oA g x).length c]) rfl).to ?_ _
    rw[←hb',h5,h3];simp
   ·refine aB (aA (aC (b:=p) (o:=0) hs rfl (bZ (A4 (by omega) ?_))))
    refine tail (M:=aE p1 0 [.func (.func 260) #[] #[pt q 0 0]]::aE q 0 [I g]::L') s.sB (hs.sg (b:=p) (o:=0) (c:=[.bool s.vH,I s.cB,I s.at',.bool s.sB,I C.entries,I C.bP,.slice a (s.known.filter fun x=> !oA g x).length c]) rfl).to ?_ _
    rw[←hb',h5,h3];simp
  refine aS (fun h4=>go (by rw[decide_eq_true (.inl h4)])) (fun h4=>aC (b:=q) (o:=0) hs rfl (bC (go (decide_eq_decide.2 (by omega)))))
 ·have hfl:=List.length_filter_le (fun x=> !oA g x) s.known
  refine aB (aA (aC (b:=p) (o:=0) hs rfl (bZ (A4 (by omega) ?_))))
  refine tail (M:=aE p1 0 [.func (.func 260) #[] #[pt q 0 0]]::aE q 0 [I g]::L') s.sB (hs.sg (b:=p) (o:=0) (c:=[.bool s.vH,I s.cB,I s.at',.bool s.sB,I C.entries,I C.bP,.slice a (s.known.filter fun x=> !oA g x).length c]) rfl).to ?_ _
  rw[h3];simp
def N7 (q:Nat) (l:List (Int×Int)):HP:=sS fun x:Option Addr×Nat=>sp [aE q 0 [.slice x.1 l.length x.2],ls cT 2 261 x.1 x.2 l]
theorem dr {p:Nat} {s:lQ} (hb:s.known.length≤100) (hs:Hs G h L) [m:Has (iS p C) L s L'] (hk:∀q h',Hs G h' (N7 q s.known::iS p C s::L')→Q (.func (.func 132) #[] #[pt q 0 0]) h'):Cl Pr K 71 [pt p 0 0] h Q:=by
 obtain⟨a,c,hs⟩:=jX (m.of hs)
 refine cW (bK hs fun q h hs=>mw (dY (bW (aB (aA (aC (b:=p) (o:=0) hs rfl (Cy (a:=a) (c:=c) (l:=s.known) hb hs fun a' c' h hs=>bA (b:=q) hs rfl rfl rfl rfl fun h hs=>hk q _ ?_)))))))
 have hs:=eG p C s (a:=a) (c:=c) (hs.cN (aE p 0 (vR C s a c)) (ls cT 2 261 a c s.known)) rfl rfl
 have hs:=hs.cN (aE q 0 [.slice a' s.known.length c']) (ls cT 2 261 a' c' s.known)
 exact Hs.wM (A:=fun x:Option Addr×Nat=>sp [aE q 0 [.slice x.1 s.known.length x.2],ls cT 2 261 x.1 x.2 s.known]) (a',c') hs.Ex
theorem uk {q:Nat} {l:List (Int×Int)} (hb:l.length≤1000):qy Pr K G 132 [] [pt q 0 0] (N7 q l) (l.map cT):=by
 intro I' J y L h Q hs hy h1 h2
 obtain⟨⟨a,c⟩,hs⟩:=hs.Be
 have hs:=hs.D2
 have shut:∀{h:AH} {M:List HP},Hs G h (aE q 0 [.slice a l.length c]::ls cT 2 261 a c l::M)→Hs G h (N7 q l::M):=fun hs=>Hs.wM (A:=fun x:Option Addr×Nat=>sp [aE q 0 [.slice x.1 l.length x.2],ls cT 2 261 x.1 x.2 l]) (a,c) hs.Ex
 refine cW (aC (b:=q) (o:=0) hs rfl (bZ ?_))
 have loop:∀(f i:Nat) (h:AH),i+f=l.length→Hs G h (aE q 0 [.slice a l.length c]::ls cT 2 261 a c l::I' ((l.drop i).map cT)::L)→Dd 132 1 [] Q [y,(.slice a l.length c),(I l.length),(I i)] h:=by
  intro f
  induction f with
  |zero=>
   intro i h hi hs
   rw[List.drop_of_length_le (by omega)] at hs
   exact bW (aU (aI (by omega) (h1 _ _ (shut hs))))
  |succ f ih=>
   intro i h hi hs
   obtain⟨x,hx,hd⟩:=lU (l:=l) (i:=i) (by omega)
   rw[hd,List.map_cons] at hs
   refine bW (aU (bM (by omega) (bW (tE (l:=l) (a:=a) (c:=c) (enc:=cT) (e:=261) hs (by decide) (by omega) (by rw[Int.toNat_natCast];exact hx) (bK hs fun p3 h hs=>bA hs rfl rfl rfl rfl fun h hs=>aA (aC (b:=p3) (o:=0) hs rfl (aA (aC (b:=p3) (o:=0) hs rfl ?_))))))))
   refine(hy _ _ h _ (hs.front (I' (cT x::((l.drop (i+1)).map cT))))).mono fun v h' hv=>?_
   rcases hv with⟨rfl,hs'⟩|⟨rfl,hs'⟩
   ·exact bU (bS (bW (bI (by omega) (ih (i+1) h' (by omega) hs'.to))))
   ·exact bU (dY (h2 _ _ (shut hs'.to)))
 exact loop l.length 0 h (by omega) (by rw[List.drop_zero];exact hs)
end Go.Proofs.YtajjljbmfdboaaaGreatDoor
end
section
namespace Go.Proofs.YtajjljbmfdboaaaGreatDoor
open Go Go.Ab Go.Hm Go.At Go.Mc
instance:Fx aQ.enc 9:=⟨fun _=>rfl,fun _=>rfl⟩
set_option maxRecDepth 100000
variable {G:Bg} {h:AH} {L L':List HP} {Q:Value→AH→Prop} {C:bQ}
abbrev sI (a:Option Addr) (c:Nat) (l:List aQ):HP:=ls aQ.enc 9 175 a c l
def nX (C:bQ) (p:Nat) (l:List aQ):HP:=sS fun x:Option Addr×Nat=>sp [aE p 0 [I C.depth,.slice x.1 l.length x.2],sI x.1 x.2 l]
theorem Bz {p:Nat} {l:List aQ} (hs:Hs G h (nX C p l::L)):∃a c,Hs G h (aE p 0 [I C.depth,.slice a l.length c]::sI a c l::L):=by
 obtain⟨⟨a,c⟩,hs⟩:=hs.Be
 exact⟨a,c,hs.D2⟩
theorem nH {p:Nat} {l:List aQ} {a:Option Addr} {c:Nat} (hs:Hs G h (aE p 0 [I C.depth,.slice a l.length c]::sI a c l::L)):Hs G h (nX C p l::L):=
 Hs.wM (A:=fun x:Option Addr×Nat=>sp [aE p 0 [I C.depth,.slice x.1 l.length x.2],sI x.1 x.2 l]) (a,c) hs.Ex
theorem Zw (hC:C.Ok) (hs:Hs G h L) (hk:∀p h',Hs G h' (nX C p []::L)→Q (.tuple ⟨[pt p 0 0,I 0]⟩) h'):Cl Pr K 147 [I C.depth] h Q:=by
 have hd:1≤C.depth∧C.depth≤16:=hC.2.2.2.2.1
 refine cW (aU (aI (by omega) (kG (aI (by omega) (aK (c:=[I C.depth,.slice none 0 0]) rfl (dJ hs fun p h hs=>hk _ _ ?_))))))
 have hs:=(sL (enc:=aQ.enc) (W:=9) (e:=175) hs).kI
 exact nH hs
theorem B8 {a:Option Addr} {c:Nat} {l:List aQ} (hb:l.length≤2^30) (hs:Hs G h L) [m:Has (sI a c) L l L']
  (hk:∀a' c' h',Hs G h' (sI a' c' l::sI a c l::L')→Q (.slice a' l.length c') h'):Cl Pr K 139 [.slice a l.length c] h Q:=
 cW (yL (e:=175) (show Hs G h (dB 9 175 a c (l.length,eL aQ.enc l)::L') from m.of hs) (by omega) hk)
theorem Y4 {p:Nat} {l:List aQ} (hd:1≤C.depth∧C.depth≤16) (hb:l.length≤1000) (hs:Hs G h L) [m:Has (nX C p) L l L'] (hk:∀h',Hs G h' (nX C p l::L')→Q (I (C.depth - l.length)) h'):Cl Pr K 269 [pt p 0 0] h Q:=by
 obtain⟨a,c,hs⟩:=Bz (m.of hs)
 refine cW (cS (bS (aR hs fun r h hs=>aB (aA (aC (b:=p) (o:=0) hs rfl (aB (aA (aC (b:=p) (o:=0) hs rfl (bZ (A4 (by omega) (hk _ ?_)))))))))))
 exact nH (a:=a) (c:=c) hs.to
theorem tk {p:Nat} {l:List aQ} {n:aQ} {a2:Option Addr} {c2:Nat} (hd:1≤C.depth∧C.depth≤16) (hb:(l.length:Int)<C.depth) (hs:Hs G h L) [m:Has (nX C p) L l L'] {M:List HP} [m2:dX (sI a2 c2 [n]) L' M] (hk:∀h',Hs G h' (nX C p (l++[n])::M)→Q (I 0) h'):
  Cl Pr K 216 [pt p 0 0,.slice a2 1 c2] h Q:=by
 have hs:Hs G h (nX C p l::sI a2 c2 [n]::M):=(m.of hs).perm (m2.perm.cons _)
 refine cW (cS (bS (bW (bZ (Y4 (C:=C) (p:=p) (l:=l) hd (by omega) hs fun h hs=>kG (aI (by omega) ?_))))))
 obtain⟨a,c,hs⟩:=Bz hs
 refine bW (aB (aA (aC (b:=p) (o:=0) hs rfl ?_)))
 refine rX (enc:=aQ.enc) (W:=9) (e:=175) (a:=a) (c:=c) (l:=l) (a2:=a2) (c2:=c2) (l2:=[n]) hs (by simp;omega) fun a' c' h hs=>?_
 refine aB (aA (bE (b:=p) (o:=0) hs rfl rfl rfl rfl fun h hs=>hk _ ?_))
 have hs:Hs G h (aE p 0 [I C.depth,.slice a' (l++[n]).length c']::sI a' c' (l++[n])::M):=(hs.sg (b:=p) (o:=0) (c:=[I C.depth,.slice a' (l++[n]).length c']) rfl).to
 exact nH hs
theorem Bw {p:Nat} {l:List aQ} {w:Int} (hb:l.length≤1000) (hs:Hs G h L) [m:Has (nX C p) L l L']
  (h0:l=[]→∀h',Hs G h' (nX C p l::L')→Q (.tuple ⟨[.agg ⟨aQ.zero.enc⟩,I 12]⟩) h')
  (hk:l≠[]→∀h',Hs G h' (nX C p (l.eraseIdx (w % (l.length:Int)).toNat)::L')→Q (.tuple ⟨[.agg ⟨(l.getD (w % (l.length:Int)).toNat aQ.zero).enc⟩,I 0]⟩) h'):Cl Pr K 199 [pt p 0 0,I w] h Q:=by
 obtain⟨a,c,hs⟩:=Bz (m.of hs)
 refine cW (bK (cs:=aQ.zero.enc) hs fun p4 h hs=>cS (bS (bW (aB (aA (aC (b:=p) (o:=0) hs rfl (bZ (bC (aS (fun h1=>?_) (fun h1=>?_))))))))))
 ·have hl:l=[]:=List.eq_nil_of_length_eq_zero (by omega)
  refine aK (c:=aQ.zero.enc) rfl (bA (b:=p4) hs rfl rfl rfl rfl fun h hs=>aN (b:=p4) (o:=0) hs (by decide) (l:=aQ.zero.enc) rfl rfl (h0 hl _ (nH (a:=a) (c:=c) hs.to)))
 have hl:l≠[]:=fun e=>by rw[e] at h1;simp at h1
 have hpos:0<l.length:=List.length_pos_iff.2 hl
 refine bW (aB (aA (aC (b:=p) (o:=0) hs rfl (bZ (aAy (by omega) ?_)))))
 obtain⟨k,hkk,hkl⟩:∃k:Nat,(k:Int)=w % (l.length:Int)∧k<l.length:=by
  have e1:=Int.emod_nonneg w (b:=(l.length:Int)) (by omega)
  have e2:=Int.emod_lt_of_pos w (b:=(l.length:Int)) (by omega)
  exact⟨(w % (l.length:Int)).toNat,by omega,by omega⟩
 rw[←hkk,Int.toNat_natCast] at hk
 have hgo:∀(M:List HP) (h:AH) (q:Nat),[Sub M L']→Hs G h (aE q 0 aQ.zero.enc::aE p4 0 aQ.zero.enc::aE p 0 [I C.depth,.slice a l.length c]::sI a c l::M)→Dd 199 5 [] Q [(pt p 0 0),(pt p4 0 0),(I k),(pt q 0 0),(.slice none 0 0),(.slice a l.length c),(I l.length),(I 0)] h:=by
  intro M h q _ hs
  have loop:∀(f i:Nat) (b:Option Addr) (d:Nat) (x:aQ) (h:AH),i+f=l.length→x=(if i≤k then aQ.zero else l.getD k aQ.zero)→
    Hs G h (sI b d ((l.take i).eraseIdx k)::aE q 0 x.enc::aE p4 0 aQ.zero.enc::aE p 0 [I C.depth,.slice a l.length c]::sI a c l::M)→
    Dd 199 5 [] Q [(pt p 0 0),(pt p4 0 0),(I k),(pt q 0 0),(.slice b ((l.take i).eraseIdx k).length d),(.slice a l.length c),(I l.length),(I i)] h:=by
   intro f
   induction f with
   |zero=>
    intro i b d x h hi hx hs
    have hil:i=l.length:=by omega
    rw[if_neg (by omega)] at hx
    subst hil
    rw[List.take_length] at hs ⊢
    refine bW (aU (aI (by omega) (bW (aB (aA (bE (b:=p) (o:=0) hs rfl rfl rfl rfl fun h hs=>aN (b:=q) (o:=0) hs (by decide) (l:=x.enc) rfl rfl (bA (b:=p4) hs rfl rfl rfl rfl fun h hs=>aN (b:=p4) (o:=0) hs (by decide) (l:=x.enc) rfl rfl ?_)))))))
    rw[hx]
    refine hk hl h ?_
    have hs:Hs G h (aE p 0 [I C.depth,.slice b (l.eraseIdx k).length d]::sI b d (l.eraseIdx k)::M):=(hs.sg (b:=p) (o:=0) (c:=[I C.depth,.slice b (l.eraseIdx k).length d]) rfl).to
    exact(nH hs).to
   |succ f ih=>
    intro i b d x h hi hx hs
    obtain⟨y,hy,hd⟩:=lU (l:=l) (i:=i) (by omega)
    have htk:l.take (i+1)=l.take i++[y]:=by rw[List.take_add_one,hy];rfl
    have hle:((l.take i).eraseIdx k).length≤l.length:=by
     have:=List.length_eraseIdx_le (l.take i) k
     rw[List.length_take] at this
     omega
    refine bW (aU (bM (by omega) (bW (tE (l:=l) (a:=a) (c:=c) (enc:=aQ.enc) (e:=175) hs.tail (by decide) (by omega) (by rw[Int.toNat_natCast];exact hy) (bK hs fun p3 h hs=>bA (b:=p3) hs rfl rfl rfl rfl fun h hs=>bC (aS (fun h2=>?_) (fun h2=>?_)))))))
    ·have hik:i=k:=by omega
     refine bW (aN (b:=p3) (o:=0) hs (by decide) (l:=y.enc) rfl rfl (bA (b:=q) hs rfl rfl rfl rfl fun h hs=>bI (by omega) ?_))
     have hlt:(l.take i).length=i:=by rw[List.length_take];omega
     have e1:(l.take (i+1)).eraseIdx k=(l.take i).eraseIdx k:=by
      have e2:(l.take i).eraseIdx k=l.take i:=List.eraseIdx_of_length_le (by omega)
      rw[htk,List.eraseIdx_append_of_length_le (by omega),hlt,show k - i=0 by omega,e2]
      simp
     have:=ih (i+1) b d y h (by omega) (by rw[if_neg (by omega),←hik,List.getD_eq_getElem?_getD,hy];rfl)
     rw[e1] at this
     exact this hs.to
    ·refine bW (aN (b:=p3) (o:=0) hs (by decide) (l:=y.enc) rfl rfl (aK (c:=y.enc) rfl (dP (W:=9) (n:=1) (c:=1) hs rfl rfl rfl fun a2 h hs=>?_)))
     refine rX (enc:=aQ.enc) (W:=9) (e:=175) (a:=b) (c:=d) (l:=(l.take i).eraseIdx k) (a2:=some a2) (c2:=1) (l2:=[y]) (uF hs) (by simp;omega) fun a' c' h hs=>bI (by omega) ?_
     have e1:(l.take (i+1)).eraseIdx k=(l.take i).eraseIdx k++[y]:=by
      rw[htk]
      by_cases hlt:k<i
      ·rw[List.eraseIdx_append_of_lt_length (by rw[List.length_take];omega)]
      ·rw[List.eraseIdx_of_length_le (by simp;omega),List.eraseIdx_of_length_le (by rw[List.length_take];omega)]
     have:=ih (i+1) a' c' x h (by omega) (by rw[hx];by_cases e:i≤k;rw[if_pos e,if_pos (by omega)];rw[if_neg e,if_neg (by omega)])
     rw[e1] at this
     exact this hs.to
  have:=loop l.length 0 none 0 aQ.zero h (by omega) (by simp) (by simpa using sL (enc:=aQ.enc) (W:=9) (e:=175) hs)
  simpa using this
 by_cases hw:w.tmod (l.length:Int)<0
 ·refine aU (bM hw (bW (aB (aA (aC (b:=p) (o:=0) hs rfl (bZ ?_))))))
  have e:w.tmod (l.length:Int)+(l.length:Int)=(k:Int):=by
   rw[hkk]
   rw[Int.tmod_eq_emod] at hw ⊢
   split at hw
   ·have:=Int.emod_nonneg w (b:=(l.length:Int)) (by omega);omega
   ·rename_i hc
    rw[if_neg hc]
    simp
  refine bI (by omega) ?_
  rw[e]
  exact bK (cs:=aQ.zero.enc) hs fun q h hs=>aB (aA (aC (b:=p) (o:=0) hs rfl (bZ (hgo L' h q hs.to))))
 ·refine aU (aI hw (bW ?_))
  have e:w.tmod (l.length:Int)=(k:Int):=by
   rw[hkk]
   rw[Int.tmod_eq_emod] at hw ⊢
   split at hw
   ·rename_i hc;rw[if_pos hc];simp
   ·rename_i hc
    exfalso
    have h2:=Int.emod_lt_of_pos w (b:=(l.length:Int)) (by omega)
    have h3:=Int.emod_nonneg w (b:=(l.length:Int)) (by omega)
    simp at hw
    omega
  rw[e]
  exact bK (cs:=aQ.zero.enc) hs fun q h hs=>aB (aA (aC (b:=p) (o:=0) hs rfl (bZ (hgo L' h q hs.to))))
theorem Wp {p:Nat} {l:List aQ} (hb:l.length≤1000) (hs:Hs G h L) [m:Has (nX C p) L l L'] (hk:∀q h',Hs G h' (nX C q l::nX C p l::L')→Q (pt q 0 0) h'):Cl Pr K 141 [pt p 0 0] h Q:=by
 obtain⟨a,c,hs⟩:=Bz (m.of hs)
 refine cW (cS (bS (aR hs fun r h hs=>aB (aA (aC (b:=p) (o:=0) hs rfl (aB (aA (aC (b:=p) (o:=0) hs rfl (B8 (a:=a) (c:=c) (l:=l) (by omega) hs fun a' c' h hs=>?_)))))))))
 refine aK (c:=[I C.depth,.slice a' l.length c']) rfl (xP (i:=10) (r:=r) hs rfl rfl fun q h hs=>cJ cZ (cJ (aB cZ) (cJ (aA cZ) (cJ (aC (b:=p) (o:=0) hs rfl gW) (hk _ _ ?_)))))
 have hs:Hs G h (aE p 0 [I C.depth,.slice a l.length c]::sI a c l::aE q 0 [I C.depth,.slice a' l.length c']::sI a' c' l::L'):=hs.to
 have hs:=nH hs
 exact(nH (show Hs G h (aE q 0 [I C.depth,.slice a' l.length c']::sI a' c' l::nX C p l::L') from hs.to)).to
end Go.Proofs.YtajjljbmfdboaaaGreatDoor
end
section
namespace Go.Proofs.YtajjljbmfdboaaaGreatDoor
open Go Go.Ab Go.Hm Go.At Go.Mc Go.Nt
theorem aCd {k:Nat} (h:1≤k∧k<14):∃fs,Bs k=1::fs:=by
 rcases k14 h.2 with rfl|rfl|rfl|rfl|rfl|rfl|rfl|rfl|rfl|rfl|rfl|rfl|rfl|rfl
 ·omega
 all_goals exact⟨_,rfl⟩
theorem j3 {C:bQ} {n:aQ} (h:wW C n=0):Nc n.kind∧0≤n.core∧n.core<C.aF:=by
 unfold wW at h
 split at h
 ·rename_i hk
  split at h
  ·split at h
   ·rename_i hw
    refine⟨hk,?_⟩
    unfold Nc at hk
    obtain⟨fs,hf⟩:=aCd (k:=n.kind.toNat) (by omega)
    rw[hf] at hw
    have h1:=hw.1
    unfold oV at h1
    split at h1
    ·rename_i hm
     exact hm
    ·cases h1
   ·cases h
  ·cases h
 ·cases h
theorem lh {k:Nat} (h:k<14):0≤K7 k∧K7 k<4:=by
 rcases k14 h with rfl|rfl|rfl|rfl|rfl|rfl|rfl|rfl|rfl|rfl|rfl|rfl|rfl|rfl<;>decide
theorem G2 {n:aQ} (h:Nc n.kind):fL n<4∧K7 n.kind.toNat=(fL n:Int):=by
 unfold Nc at h
 have:=lh (k:=n.kind.toNat) (by omega)
 unfold fL
 omega
theorem Hg {_α:Type} {n j:Nat} {g:Nat→Value} {v:Value} (hj:j<n):dH ((List.range n).map g) j [v]=(List.range n).map fun k=>if k=j then v else g k:=by
 rw[←oZ _ _ _ (by simp;omega)]
 apply List.ext_getElem?
 intro i
 unfold bY
 simp only[List.length_singleton]
 by_cases h:i<j
 ·rw[List.append_assoc,List.getElem?_append_left (by simp;omega),List.getElem?_take_of_lt h,List.getElem?_map,List.getElem?_map]
  by_cases hn:i<n
  ·rw[List.getElem?_range hn];simp;intro e;omega
  ·omega
 ·rw[List.append_assoc,List.getElem?_append_right (by simp;omega)]
  have hm:min j n=j:=by omega
  simp only[List.length_take,List.length_map,List.length_range,hm]
  by_cases h2:i=j
  ·subst h2
   rw[List.getElem?_append_left (by simp),Nat.sub_self,List.getElem?_map,List.getElem?_range hj]
   simp
  ·rw[List.getElem?_append_right (by rw[List.length_singleton];omega),List.getElem?_drop,List.length_singleton,show j+1+(i - j - 1)=i by omega,List.getElem?_map,List.getElem?_map]
   by_cases hn:i<n
   ·rw[List.getElem?_range hn];simp[h2]
   ·rw[List.getElem?_eq_none (by simp;omega)];rfl
set_option maxRecDepth 100000
variable {G:Bg} {h:AH} {L L' M:List HP} {Q:Value→AH→Prop} {C:bQ}
def kW (C:bQ) (pl:Nat→Nat):List Value:=C.enc++(List.range 16).map fun k=>if k<4*C.aF.toNat then pt (pl k) 0 0 else .pointer none
theorem wb {pl:Nat→Nat} {k:Nat} (hk:k<16):(kW C pl)[7+k]?=some (if k<4*C.aF.toNat then pt (pl k) 0 0 else .pointer none):=by
 unfold kW
 rw[List.getElem?_append_right (by simp[bQ.enc])]
 simp[bQ.enc,List.getElem?_range hk]
abbrev mD (C:bQ) (pl:Nat→Nat) (F:gM) (k:Nat):HP:=nX C (pl k) (F (k/4) (k % 4))
def sH (C:bQ) (f:Nat) (F:gM):HP:=sS fun pl:Nat→Nat=>sp [aE f 0 (kW C pl),dC (4*C.aF.toNat) (mD C pl F)]
theorem J4 {f:Nat} {F:gM} (hs:Hs G h (sH C f F::L)):∃pl,Hs G h (aE f 0 (kW C pl)::dC (4*C.aF.toNat) (mD C pl F)::L):=by
 obtain⟨pl,hs⟩:=hs.Be
 exact⟨pl,hs.D2⟩
theorem nY {f:Nat} {F:gM} {pl:Nat→Nat} (hs:Hs G h (aE f 0 (kW C pl)::dC (4*C.aF.toNat) (mD C pl F)::L)):Hs G h (sH C f F::L):=
 Hs.wM (A:=fun pl:Nat→Nat=>sp [aE f 0 (kW C pl),dC (4*C.aF.toNat) (mD C pl F)]) pl hs.Ex
def eo (C:bQ) (pl:Nat→Nat) (F:gM) (k:Nat):HP:=sp (((List.range (4*C.aF.toNat)).erase k).map (mD C pl F))
theorem F9 {F:gM} {pl:Nat→Nat} {k:Nat} (hk:k<4*C.aF.toNat) (hs:Hs G h (dC (4*C.aF.toNat) (mD C pl F)::L)):Hs G h (nX C (pl k) (F (k/4) (k % 4))::eo C pl F k::L):=hs.kR k hk
theorem qj {F:gM} {k j:Nat} {l:List aQ}:(F.set (k/4) (k % 4) l) (j/4) (j % 4)=if j=k then l else F (j/4) (j % 4):=by
 unfold gM.set
 by_cases e:j=k
 ·subst e;simp
 ·rw[if_neg e,if_neg (by omega)]
theorem M5 {F:gM} {pl:Nat→Nat} {k:Nat} {l:List aQ} (hk:k<4*C.aF.toNat) (hs:Hs G h (nX C (pl k) l::eo C pl F k::L)):Hs G h (dC (4*C.aF.toNat) (mD C pl (F.set (k/4) (k % 4) l))::L):=by
 refine Hs.ya (i:=k) (f:=mD C pl F) (g:=mD C pl (F.set (k/4) (k % 4) l)) hk (fun j hj=>?_) ?_
 ·unfold mD;rw[qj,if_neg hj]
 ·have e:mD C pl (F.set (k/4) (k % 4) l) k=nX C (pl k) l:=by unfold mD;rw[qj,if_pos rfl]
  rw[e];exact hs
theorem Bb {f:Nat} {pl:Nat→Nat} {x y:Int} (hC:C.Ok) (hs:Hs G h L) [m:Has (aE f 0) L (kW C pl) L'] (hk:Q (if(0≤x∧x<C.aF)∧(0≤y∧y<4) then pt (pl (x.toNat*4+y.toNat)) 0 0 else .pointer none) h):Cl Pr K 115 [pt f 0 0,I x,I y] h Q:=by
 have hc:=hC.1
 refine cW (cS (bS (aU (aS (fun h1=>?_) (fun h1=>aB (aA (aA (aC (b:=f) (o:=0) hs rfl (dM (aS (fun h2=>?_) (fun h2=>aU (aS (fun h3=>?_) (fun h3=>dM (aS (fun h4=>?_) (fun h4=>?_)))))))))))))))
 ·rw[if_neg (by omega)] at hk;exact hk
 ·rw[if_neg (by omega)] at hk;exact hk
 ·rw[if_neg (by omega)] at hk;exact hk
 ·rw[if_neg (by omega)] at hk;exact hk
 ·rw[if_pos (by omega)] at hk
  refine aB (aA (fA (by omega) (by omega) (fA (by omega) (by omega) (aC (b:=f) (o:=0) hs (v:=pt (pl (x.toNat*4+y.toNat)) 0 0) ?_ hk))))
  rw[show 0+7+x.toNat*4+y.toNat*1=7+(x.toNat*4+y.toNat) by omega,wb (by omega),if_pos (by omega)]
theorem qu {f:Nat} {F:gM} {pl:Nat→Nat} {x:Nat} {y:Nat} (hC:C.Ok) (hd:∀c w,(F c w).length≤1000) (hx:(x:Int)<C.aF) (hy:y<4) (hs:Hs G h (aE f 0 (kW C pl)::dC (4*C.aF.toNat) (mD C pl F)::L)) (hk:∀h',Hs G h' (aE f 0 (kW C pl)::dC (4*C.aF.toNat) (mD C pl F)::L)→Q (I (C.depth - (F x y).length)) h'):Cl Pr K 215 [pt f 0 0,I x,I y] h Q:=by
 have hc:=hC.1
 have hdp:1≤C.depth∧C.depth≤16:=hC.2.2.2.2.1
 refine cW (Bb (C:=C) (pl:=pl) hC hs ?_)
 rw[if_pos (by omega)]
 have hkk:x*4+y<4*C.aF.toNat:=by omega
 have hs:=F9 hkk hs.kI
 rw[show((x:Int)).toNat*4+((y:Int)).toNat=x*4+y by omega]
 refine Y4 (C:=C) (l:=F ((x*4+y)/4) ((x*4+y) % 4)) hdp (hd _ _) hs fun h hs=>?_
 have e1:(x*4+y)/4=x∧(x*4+y) % 4=y:=by omega
 have:=hk h
 rw[e1.1,e1.2]
 refine this ?_
 have hs:=M5 hkk hs
 have e2:F.set ((x*4+y)/4) ((x*4+y) % 4) (F ((x*4+y)/4) ((x*4+y) % 4))=F:=by
  funext c w;unfold gM.set;split
  ·rename_i e;rw[e.1,e.2]
  ·rfl
 rw[e2] at hs
 exact hs.kI
def tL (F F':gM):List Value:=(List.range 16).map fun k=>I (((F' (k/4) (k % 4)).length:Int) - (F (k/4) (k % 4)).length)
theorem ou {F F':gM} {x y:Nat} (hx:x<4) (hy:y<4):(tL F F')[x*4+y]?=some (I (((F' x y).length:Int) - (F x y).length)):=by
 unfold tL
 rw[List.getElem?_map,List.getElem?_range (by omega)]
 have e1:(x*4+y)/4=x∧(x*4+y) % 4=y:=by omega
 simp[e1.1,e1.2]
theorem qz {F F':gM} {n:aQ} {x y:Nat} (hx:n.core.toNat=x) (hy:fL n=y) (hx4:x<4) (hy4:y<4):dH (tL F F') (x*4+y) [I (((F' x y).length:Int) - (F x y).length+1)]=tL F (F'.put n):=by
 unfold tL
 rw[Hg (_α:=Nat) (by omega)]
 refine List.map_congr_left fun k hk=>?_
 have hk:=List.mem_range.1 hk
 unfold gM.put
 rw[hx,hy]
 by_cases e:k=x*4+y
 ·subst e
  have e1:(x*4+y)/4=x∧(x*4+y) % 4=y:=by omega
  rw[if_pos rfl,e1.1,e1.2]
  unfold gM.set
  rw[if_pos ⟨rfl,rfl⟩,List.length_append]
  congr 1
  simp
  omega
 ·rw[if_neg e]
  unfold gM.set
  rw[if_neg (by omega)]
end Go.Proofs.YtajjljbmfdboaaaGreatDoor
end
section
namespace Go.Proofs.YtajjljbmfdboaaaGreatDoor
open Go Go.Ab Go.Hm Go.At Go.Mc Go.Nt
set_option maxRecDepth 100000
variable {G:Bg} {h:AH} {L L' M:List HP} {Q:Value→AH→Prop} {C:bQ}
theorem en {d:Int} {F:gM} {n:aQ} {l:List aQ}:gM.Fq d F (n::l)=if((F n.core.toNat (fL n)).length:Int)<d then gM.Fq d (F.put n) l else none:=rfl
theorem Z0 {n:aQ} {l:List aQ}:cR C (n::l)=if wW C n≠0 then wW C n else cR C l:=rfl
theorem Q4 {l:List aQ} (h:cR C l=0):∀n∈l,wW C n=0:=by
 induction l with
 |nil=>intro n hn;cases hn
 |cons x l ih=>
  unfold cR at h
  split at h
  ·rename_i hx;exact absurd h hx
  ·rename_i hx
   intro n hn
   rcases List.mem_cons.1 hn with rfl|hn
   ·omega
   ·exact ih h n hn
theorem mc {f:Nat} {F:gM} {n:aQ} {a2:Option Addr} {c2:Nat} (hC:C.Ok) (hn:wW C n=0) (hr:((F n.core.toNat (fL n)).length:Int)<C.depth) {pl:Nat→Nat} {Q:Value→AH→Prop}
  (hs:Hs G h (sI a2 c2 [n]::aE f 0 (kW C pl)::dC (4*C.aF.toNat) (mD C pl F)::L)) (hk:∀h',Hs G h' (aE f 0 (kW C pl)::dC (4*C.aF.toNat) (mD C pl (F.put n))::L)→Q (I 0) h'):
  Cl Pr K 216 [pt (pl (n.core.toNat*4+fL n)) 0 0,.slice a2 1 c2] h Q:=by
 obtain⟨hk1,hk2⟩:=j3 hn
 have hl:=(G2 hk1).1
 have hc:=hC.1
 have hkk:n.core.toNat*4+fL n<4*C.aF.toNat:=by omega
 have e1:(n.core.toNat*4+fL n)/4=n.core.toNat∧(n.core.toNat*4+fL n) % 4=fL n:=by omega
 have hs:=F9 hkk (hs.front (dC (4*C.aF.toNat) (mD C pl F)))
 rw[e1.1,e1.2] at hs
 refine tk (C:=C) (l:=F n.core.toNat (fL n)) (n:=n) hC.2.2.2.2.1 hr hs fun h hs=>?_
 have hs:Hs G h (nX C (pl (n.core.toNat*4+fL n)) (F n.core.toNat (fL n)++[n])::eo C pl F (n.core.toNat*4+fL n)::aE f 0 (kW C pl)::L):=hs.to
 have hs:=M5 hkk hs
 rw[e1.1,e1.2] at hs
 exact hk _ hs.kI
theorem Cd {f:Nat} {F:gM} {l:List aQ} {a:Option Addr} {c:Nat} (hC:C.Ok) (hd:∀c w,(F c w).length≤500) (hl:l.length≤100) (hkd:Ob G 2 tZ) (hlm:Ob G 0 fB) (hs:Hs G h L) [m:Has (sH C f) L F L'] [m2:dX (sI a c l) L' M]
  (hk:∀h',Hs G h' (sH C f (gM.send C F l).1::sI a c l::M)→Q (I (gM.send C F l).2) h'):Cl Pr K 157 [pt f 0 0,.slice a l.length c] h Q:=by
 have hc:=hC.1
 have hdp:1≤C.depth∧C.depth≤16:=hC.2.2.2.2.1
 obtain⟨pl,hs⟩:=J4 (m.of hs)
 have hs:Hs G h (sI a c l::aE f 0 (kW C pl)::dC (4*C.aF.toNat) (mD C pl F)::M):=hs.perm (((m2.perm.cons _).cons _).trans (((List.Perm.swap _ _ _).cons _).trans (List.Perm.swap _ _ _)))
 unfold gM.send at hk
 have shut:∀{h:AH} {L2:List HP} {F':gM},[Sub L2 M]→Hs G h (sI a c l::aE f 0 (kW C pl)::dC (4*C.aF.toNat) (mD C pl F')::L2)→Hs G h (sH C f F'::sI a c l::M):=by
  intro h L2 F' _ hs
  have hs:=hs.cN (aE f 0 (kW C pl)) (dC (4*C.aF.toNat) (mD C pl F'))
  exact(nY hs).to
 have loop3:∀(k i:Nat) (Fi Fe:gM) (L2:List HP) (h:AH),[Sub L2 M]→i+k=l.length→cR C l=0→gM.Fq C.depth F l=some Fe→gM.Fq C.depth Fi (l.drop i)=some Fe→Hs G h (sI a c l::aE f 0 (kW C pl)::dC (4*C.aF.toNat) (mD C pl Fi)::L2)→
   Dd 157 10 [] Q [(pt f 0 0),(.slice a l.length c),(I l.length),(I i)] h:=by
  intro k
  induction k with
  |zero=>
   intro i Fi Fe L2 h _ hi hck he hr hs
   rw[List.drop_of_length_le (by omega)] at hr
   cases hr
   rw[if_neg (by omega),he] at hk
   exact bW (aU (aI (by omega) (hk _ (shut hs))))
  |succ k ih=>
   intro i Fi Fe L2 h _ hi hck he hr hs
   obtain⟨x,hx,hdr⟩:=lU (l:=l) (i:=i) (by omega)
   have hxc:=Q4 hck x (List.mem_of_getElem? hx)
   obtain⟨hk1,hk2⟩:=j3 hxc
   obtain⟨hl1,hl2⟩:=G2 hk1
   rw[hdr] at hr
   unfold gM.Fq at hr
   split at hr
   ·rename_i hroom
    refine bW (aU (bM (by omega) (bW (tE (l:=l) (a:=a) (c:=c) (enc:=aQ.enc) (e:=175) hs (by decide) (by omega) (by rw[Int.toNat_natCast];exact hx) (bK hs fun p3 h hs=>bA (b:=p3) hs rfl rfl rfl rfl fun h hs=>aA (aC (b:=p3) (o:=0) hs rfl (N.Yt hkd hs ?_)))))))
    rw[if_pos hk1,hl2]
    refine aG rfl (aG rfl (aX (aI (by omega) (bW (aR hs fun r1 h0 hs0=>aA (aC (b:=p3) (o:=0) hs0 rfl (Bb (C:=C) (pl:=pl) hC hs0 ?_)))))))
    rw[if_pos (by omega)]
    refine aN (b:=p3) (o:=0) hs0 (by decide) (l:=x.enc) rfl rfl (aK (c:=x.enc) rfl (iJ (r:=r1) (i:=6) (N:=9) (D:=[]) hs0 rfl rfl rfl rfl rfl fun a2 h hs=>?_))
    have hs:=uF hs
    have hs:Hs G h (sI (some a2) 1 [x]::aE f 0 (kW C pl)::dC (4*C.aF.toNat) (mD C pl Fi)::sI a c l::L2):=hs.to
    rw[show(x.core.toNat*4+((fL x:Nat):Int).toNat)=x.core.toNat*4+fL x by omega]
    refine mc (f:=f) hC hxc hroom hs fun h hs=>cJ (aN (b:=p3) (o:=0) hs0 (by decide) (l:=x.enc) rfl rfl (oJ ?_)) (aX (aI (by omega) (bW (bI (by omega) (ih (i+1) (Fi.put x) Fe L2 h (by omega) hck he hr hs.to)))))
    simp[aQ.enc,mB]
   ·cases hr
 have loop2:∀(k i p:Nat) (Fi:gM) (L2:List HP) (h:AH),[Sub L2 M]→i+k=l.length→cR C l=0→gM.Fq C.depth F l=gM.Fq C.depth Fi (l.drop i)→(∀c w,(Fi c w).length≤500+i)→Hs G h (aE p 0 (tL F Fi)::sI a c l::aE f 0 (kW C pl)::dC (4*C.aF.toNat) (mD C pl F)::L2)→
   Dd 157 6 [] Q [(pt f 0 0),(.slice a l.length c),(pt p 0 0),(.slice a l.length c),(I l.length),(I i)] h:=by
  intro k
  induction k with
  |zero=>
   intro i p Fi L2 h _ hi hck he hlen hs
   rw[List.drop_of_length_le (by omega)] at he
   refine bW (aU (aI (by omega) (bW (bZ ?_))))
   exact loop3 l.length 0 F Fi L2 h (by omega) hck he (by rw[List.drop_zero];exact he) hs.tail
  |succ k ih=>
   intro i p Fi L2 h _ hi hck he hlen hs
   obtain⟨x,hx,hdr⟩:=lU (l:=l) (i:=i) (by omega)
   have hxc:=Q4 hck x (List.mem_of_getElem? hx)
   obtain⟨hk1,hk2⟩:=j3 hxc
   obtain⟨hl1,hl2⟩:=G2 hk1
   obtain⟨y,hy⟩:∃y:Nat,x.core=(y:Int):=⟨x.core.toNat,by omega⟩
   have hyt:x.core.toNat=y:=by omega
   rw[hdr,en,hyt] at he
   have hb1:=hlen y (fL x)
   have hb2:=hd y (fL x)
   refine bW (aU (bM (by omega) (bW (tE (l:=l) (a:=a) (c:=c) (enc:=aQ.enc) (e:=175) hs (by decide) (by omega) (by rw[Int.toNat_natCast];exact hx) (bK hs fun p3 h hs=>bA (b:=p3) hs rfl rfl rfl rfl fun h hs=>aA (aC (b:=p3) (o:=0) hs rfl (N.Yt hkd hs ?_)))))))
   rw[if_pos hk1,hl2]
   have hxe:x.enc[0+1]?=some (I (y:Int)):=by rw[←hy];rfl
   have hat:∀{F':gM},(tL F F')[0+y*4+fL x*1]?=some (I (((F' y (fL x)).length:Int) - (F y (fL x)).length)):=by
    intro F'
    rw[show 0+y*4+fL x*1=y*4+fL x by omega];exact ou (by omega) hl1
   have hput:dH (tL F Fi) (0+y*4+fL x*1) [I (((Fi y (fL x)).length:Int) - (F y (fL x)).length+1)]=tL F (Fi.put x):=by
    rw[show 0+y*4+fL x*1=y*4+fL x by omega];exact qz hyt rfl (by omega) hl1
   have hml:(tL F Fi).length=16:=by simp[tL]
   refine aG rfl (aG rfl (aX (aI (by omega) (bW (aR hs fun r1 h hs=>aA (aC (b:=p3) (o:=0) hs hxe (dF (by omega) (dF hl1 (aC (b:=p) (o:=0) hs hat (bI (by omega) (dF (by omega) (dF hl1 ?_))))))))))))
   refine bE (b:=p) (o:=0) hs rfl (by rw[hml];exact Nat.ble_eq_true_of_le (by omega)) rfl (by rw[hml];rfl) fun h hs=>?_
   rw[hput] at hs
   refine aR hs fun r2 h hs=>aA (aC (b:=p3) (o:=0) hs hxe (dF (by omega) (dF hl1 (aC (b:=p) (o:=0) hs hat (aA (aC (b:=p3) (o:=0) hs hxe ?_))))))
   have hpl:((Fi.put x) y (fL x)).length=(Fi y (fL x)).length+1:=by unfold gM.put gM.set;rw[hyt,if_pos ⟨rfl,rfl⟩,List.length_append];rfl
   have hs:=hs.cN (aE f 0 (kW C pl)) (dC (4*C.aF.toNat) (mD C pl F))
   refine qu (C:=C) (F:=F) (x:=y) (y:=fL x) hC (fun c w=>by have:=hd c w;omega) (by omega) hl1 hs fun h hs=>kG ?_
   refine cJ (aA cZ) (cJ (aC (b:=p3) (o:=0) hs hxe gW) (cJ gW (cJ (dF (by omega) cZ) (cJ (dF hl1 cZ) (cJ (aC (b:=p) (o:=0) hs hat gW) ?_)))))
   rw[hpl]
   refine aS (fun h1=>?_) (fun h1=>?_)
   ·rw[if_neg (by omega)] at he
    rw[if_neg (by omega),he] at hk
    refine hk _ ?_
    have hs:=hs.cN (aE f 0 (kW C pl)) (dC (4*C.aF.toNat) (mD C pl F))
    exact(nY hs).to
   ·rw[if_pos (by omega)] at he
    refine bW (bI (by omega) (ih (i+1) p (Fi.put x) L2 h (by omega) hck he (fun c w=>?_) hs.to))
    have h2:((Fi.put x) c w).length≤(Fi c w).length+1:=by
     unfold gM.put gM.set;split
     ·rename_i e;rw[e.1,e.2];simp
     ·omega
    have:=hlen c w
    omega
 have loop1:∀(k i:Nat) (h:AH),i+k=l.length→cR C l=cR C (l.drop i)→Hs G h (sI a c l::aE f 0 (kW C pl)::dC (4*C.aF.toNat) (mD C pl F)::M)→
   Dd 157 2 [] Q [(pt f 0 0),(.slice a l.length c),(.slice a l.length c),(I l.length),(I i)] h:=by
  intro k
  induction k with
  |zero=>
   intro i h hi he hs
   rw[List.drop_of_length_le (by omega)] at he
   refine bW (aU (aI (by omega) (bW (bK hs fun p h hs=>bZ ?_))))
   refine loop2 l.length 0 p F M h (by omega) he (by rw[List.drop_zero]) (fun c w=>by have:=hd c w;omega) ?_
   have e:tL F F=[I 0,I 0,I 0,I 0,I 0,I 0,I 0,I 0,I 0,I 0,I 0,I 0,I 0,I 0,I 0,I 0]:=by
    unfold tL
    simp only[Int.sub_self]
    rfl
   rw[e];exact hs
  |succ k ih=>
   intro i h hi he hs
   obtain⟨x,hx,hdr⟩:=lU (l:=l) (i:=i) (by omega)
   rw[hdr,Z0] at he
   refine bW (aU (bM (by omega) (bW (tE (l:=l) (a:=a) (c:=c) (enc:=aQ.enc) (e:=175) hs (by decide) (by omega) (by rw[Int.toNat_natCast];exact hx) (bK hs fun p3 h hs=>bA (b:=p3) hs rfl rfl rfl rfl fun h hs=>aR hs fun r1 h hs=>aB (aA (aN (b:=f) (o:=0) hs (by decide) (l:=C.enc) rfl rfl (aN (b:=p3) (o:=0) hs (by decide) (l:=x.enc) rfl rfl ?_))))))))
   refine N.aA8 (C:=C) (n:=x) hkd hlm hs fun h hs=>aX (aS (fun h1=>?_) (fun h1=>?_))
   ·rw[if_pos h1] at he
    rw[if_pos (by rw[he];exact h1),he] at hk
    exact hk _ (shut (L2:=aE p3 0 x.enc::M) hs.to)
   ·rw[if_neg h1] at he
    exact bW (bI (by omega) (ih (i+1) h (by omega) he hs.to))
 refine cW (cS (bS (bW (bZ ?_))))
 exact loop1 l.length 0 h (by omega) (by rw[List.drop_zero]) hs
end Go.Proofs.YtajjljbmfdboaaaGreatDoor
end
end
section
namespace Go.Proofs.YtajjljbmfdboaaaGreatDoor
open Go Go.Ab Go.Hm Go.At Go.Mc Go.Nt
theorem Gg {k:Value→Prop} (hk:k (.bool true)):aZ (Qa .eql (.pointer none) (.pointer none)) k:=⟨_,rfl,hk⟩
set_option maxRecDepth 100000
attribute [local irreducible] aZ Br oM rI sQ Bi lE tH kU Qb gI lF pD pW oR kH zH tJ W2 Ut Qa Nn T3 P6 Km Lx T2 jR mX rV iO copyV iB vL Va Uo Fm kB Lu Sv Vn nF rH wK zB Cl wX T1 rM qX jI gS cI cA
variable {G:Bg} {h:AH} {L L' M:List HP} {Q:Value→AH→Prop} {C:bQ}
theorem T9 {f:Nat} {F:gM} {x y w:Int} (hC:C.Ok) (hd:∀c w,(F c w).length≤500) (hs:Hs G h L) [m:Has (sH C f) L F L']
  (hk:∀h',Hs G h' (sH C f (gM.take C F x y w).1::L')→Q (.tuple ⟨[.agg ⟨(gM.take C F x y w).2.1.enc⟩,I (gM.take C F x y w).2.2]⟩) h'):Cl Pr K 155 [pt f 0 0,I x,I y,I w] h Q:=by
 have hc:=hC.1
 obtain⟨pl,hs⟩:=J4 (m.of hs)
 unfold gM.take at hk
 refine cW (bK (cs:=aQ.zero.enc) hs fun p h hs=>cS (bS (bW (Bb (C:=C) (pl:=pl) hC hs ?_))))
 by_cases c1:(0≤x∧x<C.aF)∧(0≤y∧y<4)
 ·rw[if_neg (by omega)] at hk
  rw[if_pos c1]
  refine cS (bS ?_)
  have hkk:x.toNat*4+y.toNat<4*C.aF.toNat:=by omega
  have e1:(x.toNat*4+y.toNat)/4=x.toNat∧(x.toNat*4+y.toNat) % 4=y.toNat:=by omega
  have hs:=F9 hkk (hs.front (dC (4*C.aF.toNat) (mD C pl F)))
  rw[e1.1,e1.2] at hs
  have fin:∀{h:AH} (l:List aQ) (n:aQ) (e:Int),Hs G h (nX C (pl (x.toNat*4+y.toNat)) l::eo C pl F (x.toNat*4+y.toNat)::aE p 0 aQ.zero.enc::aE f 0 (kW C pl)::L')→(∀h',Hs G h' (sH C f (F.set x.toNat y.toNat l)::L')→Q (.tuple ⟨[.agg ⟨n.enc⟩,I e]⟩) h')→
    aZ (pD 0 (.tuple ⟨[.agg ⟨n.enc⟩,I e]⟩)) fun v3=>aZ (pD 1 (.tuple ⟨[.agg ⟨n.enc⟩,I e]⟩)) fun v4=>aZ (sQ h 9 (pt p 0 0) v3) fun h5=>aZ (rI h5 9 (pt p 0 0)) fun v6=>Q (.tuple ⟨[v6,v4]⟩) h5:=by
   intro h l n e hs hq
   refine aG rfl (aG rfl (bA (b:=p) hs rfl rfl rfl rfl fun h hs=>aN (b:=p) (o:=0) hs (by decide) (l:=n.enc) rfl rfl (hq _ ?_)))
   have hs:=M5 hkk (hs.cN (nX C (pl (x.toNat*4+y.toNat)) l) (eo C pl F (x.toNat*4+y.toNat)))
   rw[e1.1,e1.2] at hs
   have hs:=hs.cN (aE f 0 (kW C pl)) (dC (4*C.aF.toNat) (mD C pl (F.set x.toNat y.toNat l)))
   exact(nY hs).to
  dsimp only at hk
  refine Bw (C:=C) (l:=F x.toNat y.toNat) (by have:=hd x.toNat y.toNat;omega) hs (fun hl h hs=>?_) (fun hl h hs=>?_)
  ·rw[if_pos hl] at hk
   refine fin _ _ _ hs fun h hs=>hk _ ?_
   have e2:F.set x.toNat y.toNat (F x.toNat y.toNat)=F:=by
    funext c w;unfold gM.set;split
    ·rename_i e;rw[e.1,e.2]
    ·rfl
   rw[e2] at hs
   exact hs
  ·rw[if_neg hl] at hk
   exact fin _ _ _ hs hk
 ·rw[if_pos c1] at hk
  rw[if_neg c1]
  refine Gg (dY (aK (c:=aQ.zero.enc) rfl ?_))
  refine bA (b:=p) hs rfl rfl rfl rfl fun h hs=>?_
  refine aN (b:=p) (o:=0) hs (by decide) (l:=aQ.zero.enc) rfl rfl (hk _ ?_)
  exact nY hs.tail
def rJ (C:bQ) (pl:Nat→Nat) (n:Nat):List Value:=C.enc++(List.range 16).map fun k=>if k<n then pt (pl k) 0 0 else .pointer none
theorem Tv {pl:Nat→Nat} {n p:Nat} (hn:n<16):dH (rJ C pl n) (7+n) [pt p 0 0]=rJ C (bT pl n p) (n+1):=by
 unfold rJ
 have e:∀(A B:List Value) (j:Nat) (v:List Value),j+v.length≤B.length→dH (A++B) (A.length+j) v=A++dH B j v:=by
  intro A
  induction A with
  |nil=>intro B j v hj;simp
  |cons x A ih=>intro B j v hj;rw[List.cons_append,List.length_cons,show A.length+1+j=(A.length+j)+1 by omega];show x::dH (A++B) (A.length+j) v=_;rw[ih B j v hj];rfl
 rw[show 7+n=C.enc.length+n by simp[bQ.enc],e _ _ _ _ (by simp;omega),Hg (_α:=Nat) hn]
 congr 1
 refine List.map_congr_left fun k _=>?_
 by_cases h1:k=n
 ·subst h1;rw[if_pos rfl,if_pos (by omega),gL]
 ·rw[if_neg h1]
  by_cases h2:k<n
  ·rw[if_pos h2,if_pos (by omega),yF h1]
  ·rw[if_neg h2,if_neg (by omega)]
theorem Cx {pl:Nat→Nat} {n:Nat}:(rJ C pl n).length=23:=by unfold rJ;simp[bQ.enc]
theorem Y1 {n p:Nat} {pl:Nat→Nat} {F:gM} (hs:Hs G h (nX C p (F (n/4) (n % 4))::dC n (mD C pl F)::L)):Hs G h (dC (n+1) (mD C (bT pl n p) F)::L):=by
 refine Hs.Qh ?_
 have e1:mD C (bT pl n p) F n=nX C p (F (n/4) (n % 4)):=by unfold mD;rw[gL]
 rw[e1]
 have hs:=hs.kI
 have hs:=qB (g:=mD C (bT pl n p) F) (fun j hj=>by unfold mD;rw[yF (by omega)]) hs
 exact hs.kI
theorem Zh (hC:C.Ok) (hlm:Ob G 0 fB) (hs:Hs G h L) (hk:∀f h',Hs G h' (sH C f (fun _ _=>[])::L)→Q (.tuple ⟨[pt f 0 0,I 0]⟩) h'):Cl Pr K 88 [.agg ⟨C.enc⟩] h Q:=by
 have hc:=hC.1
 refine cW (dJ hs fun p h hs=>aN (b:=p) (o:=0) hs (by decide) (l:=C.enc) rfl rfl (lC hlm hs fun h hs=>?_))
 rw[if_pos hC]
 refine aX (aI (by omega) (bW (aN (b:=p) (o:=0) hs (by decide) (l:=C.enc) rfl rfl (aK (c:=rJ C (fun _=>0) 0) rfl (dJ hs fun f h hs=>aA (aC (b:=p) (o:=0) hs rfl ?_))))))
 have inner:∀(k w x:Nat) (pl:Nat→Nat) (h:AH),w+k=4→(x:Int)<C.aF→(∀(pl:Nat→Nat) (h:AH),Hs G h (aE f 0 (rJ C pl (4*x+4))::aE p 0 C.enc::dC (4*x+4) (mD C pl fun _ _=>[])::L)→Dd 88 6 [] Q [(pt p 0 0),(pt f 0 0),(I C.aF),(I x)] h)→
   Hs G h (aE f 0 (rJ C pl (4*x+w))::aE p 0 C.enc::dC (4*x+w) (mD C pl fun _ _=>[])::L)→Dd 88 4 [] Q [(pt p 0 0),(pt f 0 0),(I x),(I C.aF),(I x),(I w)] h:=by
  intro k
  induction k with
  |zero=>
   intro w x pl h hw hx hq hs
   have:w=4:=by omega
   subst this
   exact bW (aU (aI (by omega) (hq pl h hs)))
  |succ k ih=>
   intro w x pl h hw hx hq hs
   refine bW (aU (bM (by omega) (bW (aA (aC (b:=p) (o:=0) hs rfl (Zw hC hs fun q h hs=>aG rfl (aG rfl (aX (aI (by omega) (bW (aB (aA (dF (by omega) (dF (by omega) ?_))))))))))))))
   refine bE (b:=f) (o:=0) hs rfl (by rw[Cx];exact Nat.ble_eq_true_of_le (by simp;omega)) rfl (by rw[Cx];rfl) fun h hs=>bI (by omega) ?_
   rw[show 0+7+x*4+w*1=7+(4*x+w) by omega,Tv (by omega)] at hs
   refine ih (w+1) x (bT pl (4*x+w) q) h (by omega) hx hq ?_
   have hs:=hs.cN (nX C q []) (dC (4*x+w) (mD C pl fun _ _=>[]))
   have hs:=Y1 (F:=fun _ _=>[]) hs
   exact(show Hs G h (aE f 0 (rJ C (bT pl (4*x+w) q) (4*x+(w+1)))::aE p 0 C.enc::dC (4*x+(w+1)) (mD C (bT pl (4*x+w) q) fun _ _=>[])::L) from hs.to)
 have outer:∀(k x:Nat) (pl:Nat→Nat) (h:AH),x+k=C.aF.toNat→Hs G h (aE f 0 (rJ C pl (4*x))::aE p 0 C.enc::dC (4*x) (mD C pl fun _ _=>[])::L)→Dd 88 2 [] Q [(pt p 0 0),(pt f 0 0),(I C.aF),(I x)] h:=by
  intro k
  induction k with
  |zero=>
   intro x pl h hx hs
   refine bW (aU (aI (by omega) (hk f h ?_)))
   have e:x=C.aF.toNat:=by omega
   subst e
   have hs:Hs G h (aE f 0 (kW C pl)::aE p 0 C.enc::dC (4*C.aF.toNat) (mD C pl fun _ _=>[])::L):=hs
   exact(nY (show Hs G h (aE f 0 (kW C pl)::dC (4*C.aF.toNat) (mD C pl fun _ _=>[])::L) from hs.to))
  |succ k ih=>
   intro x pl h hx hs
   refine bW (aU (bM (by omega) (bW ?_)))
   refine inner 4 0 x pl h (by omega) (by omega) (fun pl h hs=>bW (bI (by omega) (ih (x+1) pl h (by omega) ?_))) hs
   exact(show Hs G h (aE f 0 (rJ C pl (4*(x+1)))::aE p 0 C.enc::dC (4*(x+1)) (mD C pl fun _ _=>[])::L) from by rw[show 4*(x+1)=4*x+4 by omega];exact hs)
 have hs:=Hs.Sr (f:=mD C (fun _=>0) fun _ _=>[]) hs
 exact outer C.aF.toNat 0 (fun _=>0) h (by omega) (show Hs G h (aE f 0 (rJ C (fun _=>0) 0)::aE p 0 C.enc::dC 0 (mD C (fun _=>0) fun _ _=>[])::L) from hs.to)
end Go.Proofs.YtajjljbmfdboaaaGreatDoor
end
section
namespace Go.Proofs.YtajjljbmfdboaaaGreatDoor
open Go Go.Ab Go.Hm Go.At Go.Mc Go.Nt
theorem z6 {n sz i:Nat} {l m:List Value} {k:Value→Prop} (hi:i<n) (hl:i*sz+sz≤l.length) (hm:(l.drop (i*sz)).take sz=m) (hk:k (.agg ⟨m⟩)):aZ (Sv n sz (.agg ⟨l⟩) (I i)) k:=
 ⟨.agg ⟨m⟩,by unfold Sv;simp only;rw[if_pos ⟨by omega,by omega,by simpa using hl⟩];simp[hm],hk⟩
set_option maxRecDepth 100000
attribute [local irreducible] aZ Br oM rI sQ Bi lE tH kU Qb gI lF pD pW oR kH zH tJ W2 Ut Qa Nn T3 P6 Km Lx T2 jR mX rV iO copyV iB vL Va Uo Fm kB Lu Sv Vn nF rH wK zB Cl wX T1 rM qX jI gS cI cA
variable {G:Bg} {h:AH} {L L' M:List HP} {Q:Value→AH→Prop} {C:bQ}
def jL (C:bQ) (pl:Nat→Nat):List Value:=(List.range 16).map fun k=>if k<4*C.aF.toNat then pt (pl k) 0 0 else .pointer none
theorem Au {pl:Nat→Nat}:(jL C pl).length=16:=by simp[jL]
theorem j6 {pl:Nat→Nat} {x w:Nat} (hx:x<4) (hw:w<4):(((jL C pl).drop (x*4)).take 4)[w]?=some (if x*4+w<4*C.aF.toNat then pt (pl (x*4+w)) 0 0 else .pointer none):=by
 rw[List.getElem?_take_of_lt hw,List.getElem?_drop]
 unfold jL
 rw[List.getElem?_map,List.getElem?_range (by omega)]
 rfl
theorem Zl (hk:Q (.pointer none) h):Cl Pr K 141 [.pointer none] h Q:=
 cW (Gg (dY hk))
theorem fk {pl:Nat→Nat} {n j:Nat} (hn:n≤j) (hj:j<16):dH (rJ C pl n) (7+j) [.pointer none]=rJ C pl n:=by
 unfold rJ
 have e:∀(A B:List Value) (j:Nat) (v:List Value),j+v.length≤B.length→dH (A++B) (A.length+j) v=A++dH B j v:=by
  intro A
  induction A with
  |nil=>intro B j v hj;simp
  |cons x A ih=>intro B j v hj;rw[List.cons_append,List.length_cons,show A.length+1+j=(A.length+j)+1 by omega];show x::dH (A++B) (A.length+j) v=_;rw[ih B j v hj];rfl
 rw[show 7+j=C.enc.length+j by simp[bQ.enc],e _ _ _ _ (by simp;omega),Hg (_α:=Nat) hj]
 congr 1
 refine List.map_congr_left fun k _=>?_
 by_cases h1:k=j
 ·rw[if_pos h1,if_neg (by omega)]
 ·rw[if_neg h1]
theorem Wf {f:Nat} {F:gM} (hC:C.Ok) (hd:∀c w,(F c w).length≤500) (hs:Hs G h L) [m:Has (sH C f) L F L'] (hk:∀g h',Hs G h' (sH C g F::sH C f F::L')→Q (pt g 0 0) h'):Cl Pr K 78 [pt f 0 0] h Q:=by
 have hc:=hC.1
 obtain⟨pl,hs⟩:=J4 (m.of hs)
 refine cW (cS (bS (bW (aB (aA (aN (b:=f) (o:=0) hs (by decide) (l:=C.enc) rfl rfl (aK (c:=rJ C (fun _=>0) 0) rfl (dJ hs fun g h hs=>aB (aA (aN (b:=f) (o:=0) hs (by decide) (l:=jL C pl) ?_ Au ?_))))))))))
 ·unfold kW jL
  rw[show 0+7=C.enc.length by simp[bQ.enc],List.drop_left,List.take_of_length_le (by simp)]
 let N:=4*C.aF.toNat
 have inner:∀(k w x:Nat) (pl2:Nat→Nat) (L2:List HP) (h:AH),[Sub L2 L']→w+k=4→x<4→(∀(pl2:Nat→Nat) (h:AH),Hs G h (aE g 0 (rJ C pl2 (min N (4*x+4)))::dC (min N (4*x+4)) (mD C pl2 F)::aE f 0 (kW C pl)::dC N (mD C pl F)::L2)→Dd 78 6 [] Q [(pt g 0 0),(.agg ⟨jL C pl⟩),(I x)] h)→
   Hs G h (aE g 0 (rJ C pl2 (min N (4*x+w)))::dC (min N (4*x+w)) (mD C pl2 F)::aE f 0 (kW C pl)::dC N (mD C pl F)::L2)→Dd 78 4 [] Q [(pt g 0 0),(I x),(.agg ⟨jL C pl⟩),(I x),(.agg ⟨((jL C pl).drop (x*4)).take 4⟩),(I w)] h:=by
  intro k
  induction k with
  |zero=>
   intro w x pl2 L2 h _ hw hx hq hs
   have:w=4:=by omega
   subst this
   exact bW (aU (aI (by omega) (hq pl2 h hs)))
  |succ k ih=>
   intro w x pl2 L2 h _ hw hx hq hs
   refine bW (aU (bM (by omega) (bW (Yc (by omega) (j6 hx (by omega)) (aR hs fun r h hs=>?_)))))
   have fin:∀(v:Value) (pl3:Nat→Nat) (h:AH),eE v=true→Cv v [v]→dH (rJ C pl2 (min N (4*x+w))) (7+(4*x+w)) [v]=rJ C pl3 (min N (4*x+(w+1)))→
     Hs G h (aE g 0 (rJ C pl2 (min N (4*x+w)))::dC (min N (4*x+(w+1))) (mD C pl3 F)::aE f 0 (kW C pl)::dC N (mD C pl F)::L2)→
     aZ (lF (pt g 0 0)) fun v4=>aZ (gI 7 v4) fun v5=>aZ (mX 4 4 v5 (I x)) fun v6=>aZ (mX 4 1 v6 (I w)) fun v7=>aZ (sQ h 1 v7 v) fun h8=>(mB (pt g 0 0) (pt g 0 0)=true)∧((mB (I x) (I x)=true)∧((mB (I w) (I w)=true)∧((aZ (lF (pt g 0 0)) fun v9=>mB v9 v4=true)∧((aZ (gI 7 v4) fun v10=>mB v10 v5=true)∧((aZ (mX 4 4 v5 (I x)) fun v11=>mB v11 v6=true)∧(aZ (tJ .add (I w) (I 1)) fun v12=>Dd 78 4 [] Q [(pt g 0 0),(I x),(.agg ⟨jL C pl⟩),(I x),(.agg ⟨((jL C pl).drop (x*4)).take 4⟩),v12] h8)))))):=by
    intro v pl3 h hv hcv he hs
    refine aB (aA (dF hx (dF (by omega) ?_)))
    refine bE (b:=g) (o:=0) hs rfl (by rw[Cx];exact Nat.ble_eq_true_of_le (by simp;omega)) (by simp[hv]) (by rw[Cx];rfl) fun h hs=>?_
    rw[show 0+7+x*4+w*1=7+(4*x+w) by omega,he] at hs
    refine cJ cZ (cJ gW (cJ gW (cJ (aB cZ) (cJ (aA cZ) (cJ (dF hx cZ) (bI (by omega) ?_))))))
    exact ih (w+1) x pl3 L2 h (by omega) hx hq hs
   by_cases c1:x*4+w<4*C.aF.toNat
   ·rw[if_pos c1]
    have hb:dC N (mD C pl F)=dC (4*C.aF.toNat) (mD C pl F):=rfl
    have hs:=F9 c1 (hs.front (dC N (mD C pl F)))
    refine Wp (C:=C) (l:=F ((x*4+w)/4) ((x*4+w) % 4)) (by have:=hd ((x*4+w)/4) ((x*4+w) % 4);omega) hs fun q h hs=>?_
    have hs:=M5 c1 (hs.cN (nX C (pl (x*4+w)) (F ((x*4+w)/4) ((x*4+w) % 4))) (eo C pl F (x*4+w)))
    have e2:F.set ((x*4+w)/4) ((x*4+w) % 4) (F ((x*4+w)/4) ((x*4+w) % 4))=F:=by
     funext c w;unfold gM.set;split
     ·rename_i e;rw[e.1,e.2]
     ·rfl
    rw[e2] at hs
    have hm1:min N (4*x+w)=4*x+w:=by show min (4*C.aF.toNat) _=_;omega
    have hm2:min N (4*x+(w+1))=4*x+w+1:=by show min (4*C.aF.toNat) _=_;omega
    rw[hm1] at hs
    rw[show x*4+w=4*x+w by omega] at hs
    have hs:=hs.cN (nX C q (F ((4*x+w)/4) ((4*x+w) % 4))) (dC (4*x+w) (mD C pl2 F))
    have hs:=Y1 hs
    refine fin (pt q 0 0) (bT pl2 (4*x+w) q) h rfl inferInstance ?_ ?_
    ·rw[hm1,hm2,Tv (by omega)]
    ·rw[hm1,hm2];exact hs.to
   ·rw[if_neg c1]
    have hm1:min N (4*x+w)=N:=by show min (4*C.aF.toNat) _=4*C.aF.toNat;omega
    have hm2:min N (4*x+(w+1))=N:=by show min (4*C.aF.toNat) _=4*C.aF.toNat;omega
    refine Zl (fin (.pointer none) pl2 h rfl inferInstance ?_ ?_)
    ·rw[hm1,hm2];exact fk (by show 4*C.aF.toNat≤_;omega) (by omega)
    ·rw[hm1] at hs
     rw[hm1,hm2];exact hs.to
 have outer:∀(k x:Nat) (pl2:Nat→Nat) (L2:List HP) (h:AH),[Sub L2 L']→x+k=4→Hs G h (aE g 0 (rJ C pl2 (min N (4*x)))::dC (min N (4*x)) (mD C pl2 F)::aE f 0 (kW C pl)::dC N (mD C pl F)::L2)→Dd 78 2 [] Q [(pt g 0 0),(.agg ⟨jL C pl⟩),(I x)] h:=by
  intro k
  induction k with
  |zero=>
   intro x pl2 L2 h _ hx hs
   refine bW (aU (aI (by omega) (hk g h ?_)))
   have hm1:min N (4*x)=N:=by show min (4*C.aF.toNat) _=4*C.aF.toNat;omega
   rw[hm1] at hs
   have hs:Hs G h (aE g 0 (kW C pl2)::dC (4*C.aF.toNat) (mD C pl2 F)::aE f 0 (kW C pl)::dC (4*C.aF.toNat) (mD C pl F)::L2):=hs
   have hs:=nY hs
   have hs:=hs.cN (aE f 0 (kW C pl)) (dC (4*C.aF.toNat) (mD C pl F))
   have hs:=nY hs
   exact hs.to
  |succ k ih=>
   intro x pl2 L2 h _ hx hs
   refine bW (aU (bM (by omega) (bW (z6 (by omega) (by rw[Au];omega) rfl (bK hs fun p h hs=>?_)))))
   have hl4:(((jL C pl).drop (x*4)).take 4).length=4:=by rw[List.length_take,List.length_drop,Au];omega
   have hcb:(((jL C pl).drop (x*4)).take 4).all eE=true:=by
    refine List.all_eq_true.2 fun v hv=>?_
    have:=List.mem_of_mem_drop (List.mem_of_mem_take hv)
    unfold jL at this
    obtain⟨k,_,rfl⟩:=List.mem_map.1 this
    split<;>rfl
   refine bA (b:=p) hs rfl rfl hl4 hcb fun h hs=>aN (b:=p) (o:=0) hs (by decide) (l:=((jL C pl).drop (x*4)).take 4) (by rw[List.drop_zero];exact List.take_of_length_le (by omega)) hl4 ?_
   refine inner 4 0 x pl2 (aE p 0 (((jL C pl).drop (x*4)).take 4)::L2) h (by omega) (by omega) (fun pl2 h hs=>bW (bI (by omega) (ih (x+1) pl2 (aE p 0 (((jL C pl).drop (x*4)).take 4)::L2) h (by omega) (by rw[show 4*(x+1)=4*x+4 by omega];exact hs)))) ?_
   exact hs.to
 have hs:=Hs.Sr (f:=mD C (fun _=>0) F) hs
 refine outer 4 0 (fun _=>0) L' h (by omega) ?_
 rw[show min N (4*0)=0 by omega]
 exact hs.to
end Go.Proofs.YtajjljbmfdboaaaGreatDoor
end
section
open Go Go.Ab
attribute [local irreducible] aZ Br oM rI sQ Bi lE tH kU Qb gI lF pD pW oR kH zH tJ W2 Ut Qa Nn T3 P6 Km Lx T2 jR mX rV iO copyV iB vL Va Uo Fm kB Lu Sv Vn nF rH wK zB Cl wX T1 rM qX jI gS cI cA
section
namespace Go.Proofs.YtajjljbmfdboaaaGreatDoor
open Go Go.Ab Go.Hm Go.At Go.Is Go.Mc
instance:Fx Ins.enc 4:=⟨fun _=>rfl,fun _=>rfl⟩
set_option maxRecDepth 100000
variable {G:Bg} {h:AH} {L L' M:List HP} {Q:Value→AH→Prop} {s:aY} {i p:Nat}
abbrev P4 (a:Option Addr) (c:Nat) (l:List Ins):HP:=ls Ins.enc 4 86 a c l
def pK (i:Nat) (s:aY) (a:Option Addr) (c:Nat):List Value:=s.core++[I i,.slice a s.prog.length c]
def iY (i:Nat) (p:Nat) (s:aY):HP:=sS fun x:Option Addr×Nat=>sp [aE p 0 (pK i s x.1 x.2),P4 x.1 x.2 s.prog]
theorem lH (hs:Hs G h (iY i p s::L)):∃a c,Hs G h (aE p 0 (pK i s a c)::P4 a c s.prog::L):=by
 obtain⟨⟨a,c⟩,hs⟩:=hs.Be
 exact⟨a,c,hs.D2⟩
theorem jF (p i:Nat) (s:aY) {a:Option Addr} {c:Nat} {cs:List Value} {l:List Ins} {L1 L2:List HP} (hs:Hs G h L) [m:Has (aE p 0) L cs L1] [m2:Has (P4 a c) L1 l L2] (h1:cs=pK i s a c) (h2:l=s.prog):Hs G h (iY i p s::L2):=by
 subst h1;subst h2
 exact Hs.wM (A:=fun x:Option Addr×Nat=>sp [aE p 0 (pK i s x.1 x.2),P4 x.1 x.2 s.prog]) (a,c) (Hs.pack (A:=[_,_]) (hs.perm (m.perm.trans (m2.perm.cons _))))
theorem aAp {a:Option Addr} {c:Nat} {k:Int} (hk:0≤k∧k<4):(pK i s a c)[0+0+0+k.toNat*1]?=some (I (s.cX k.toNat)):=by
 have:k=0∨k=1∨k=2∨k=3:=by omega
 rcases this with rfl|rfl|rfl|rfl<;>rfl
theorem sv {a:Option Addr} {c:Nat} {k v:Int} (hk:0≤k∧k<4):dH (pK i s a c) (0+0+0+k.toNat*1) [I v]=pK i (s.dN k v) a c:=by
 have:k=0∨k=1∨k=2∨k=3:=by omega
 rcases this with rfl|rfl|rfl|rfl<;>rfl
theorem xA {a:Option Addr} {c:Nat} {k:Int} {q:Value→Prop} (hs:Hs G h L) [m:Has (aE p 0) L (pK i s a c) L'] (hk:0≤k∧k<4) (hq:q (I (s.cX k.toNat))):aZ (lF (pt p 0 0)) fun v4=>aZ (gI 0 v4) fun v5=>aZ (gI 0 v5) fun v6=>aZ (mX 4 1 v6 (I k)) fun v7=>aZ (oM h v7) q:=
 aB (aA (aA (fA hk.1 hk.2 (aC (b:=p) (o:=0) hs (aAp hk) hq))))
theorem Ai {a:Option Addr} {c:Nat} {k v:Int} {q:AH→Prop} (hs:Hs G h L) [m:Has (aE p 0) L (pK i s a c) L'] (hk:0≤k∧k<4) (hq:∀h',Hs G h' (aE p 0 (pK i (s.dN k v) a c)::L')→q h'):aZ (lF (pt p 0 0)) fun v4=>aZ (gI 0 v4) fun v5=>aZ (gI 0 v5) fun v6=>aZ (mX 4 1 v6 (I k)) fun v7=>aZ (sQ h 1 v7 (I v)) q:=by
 refine aB (aA (aA (fA hk.1 hk.2 ?_)))
 have hl:(pK i s a c).length=9:=rfl
 refine bE (b:=p) (o:=0) hs rfl (by rw[hl];exact Nat.ble_eq_true_of_le (by simp;omega)) rfl rfl fun h hs=>?_
 rw[sv hk] at hs
 exact hq _ hs
theorem Xh {a:Option Addr} {c:Nat} {x:Int} {cs:List Value} (hx:0≤x) (hc8:cs[8]?=some (.slice a s.prog.length c)) (hs:Hs G h L) [m:Has (aE p 0) L cs L'] [m2:Has (P4 a c) L' s.prog M] (hk:∀h',Hs G h' L→Q (.bool (Cs s.prog x)) h'):Cl Pr K 100 [pt p 0 0,I x] h Q:=by
 have hs2:Hs G h (aE p 0 cs::P4 a c s.prog::M):=hs.perm (m.perm.trans (m2.perm.cons _))
 unfold Cs at hk
 refine cW (aU (aI (by omega) (aB (aA (aC (b:=p) (o:=0) hs hc8 (bZ (dM (aS (fun h1=>?_) (fun h1=>?_)))))))))
 ·rw[if_pos h1] at hk;exact hk _ hs
 ·rw[if_neg h1] at hk
  refine aB (aA (aC (b:=p) (o:=0) hs hc8 (J6 (l:=s.prog) (a:=a) (c:=c) (enc:=Ins.enc) (e:=86) (x:=vU s.prog x) hs2 hx ?_ rfl (bC ?_))))
  ·unfold vU;rw[List.getD_eq_getElem?_getD,List.getElem?_eq_getElem (by omega)];rfl
  ·exact hk _ hs
theorem F2 {x:Int} (hx:0≤x) (hs:Hs G h L) [m:Has (iY i p) L s L'] (hk:∀h',Hs G h' (iY i p (s.nA x)::L')→Q (.tuple ⟨[]⟩) h'):Cl Pr K 98 [pt p 0 0,I x] h Q:=by
 obtain⟨a,c,hs⟩:=lH (m.of hs)
 refine cW (aB (aA (aA (bE (b:=p) (o:=0) hs rfl rfl rfl rfl fun h hs=>?_))))
 refine Xh (s:=s) (a:=a) (c:=c) hx rfl hs fun h hs=>aB (aA (aA (bE (b:=p) (o:=0) hs rfl rfl rfl rfl fun h hs=>hk _ ?_)))
 exact jF p i (s.nA x) (a:=a) (c:=c) hs rfl rfl
theorem Sb {x:Ins} {a:Option Addr} {c:Nat} (hs:Hs G h L) [m:Has (aE p 0) L (pK i s a c) L'] (hk:∀h',Hs G h' L→Q (.agg ⟨(aY.ev s i x 0 0 0).enc⟩) h'):Cl Pr K 99 [pt p 0 0,.agg ⟨x.enc⟩] h Q:=by
 refine cW (dJ hs fun q h hs=>bK hs fun r h hs=>aR hs fun rr h hs=>?_)
 refine aB (aA (aC (b:=p) (o:=0) hs rfl (aB (aA (aA (aC (b:=p) (o:=0) hs rfl (aA (aC (b:=q) (o:=0) hs rfl (aB (aA (aA (aC (b:=p) (o:=0) hs rfl (aK (c:=(aY.ev s i x 0 0 0).enc) rfl ?_)))))))))))))
 refine bA (b:=r) hs rfl rfl rfl rfl fun h hs=>aN (b:=r) (o:=0) hs (by decide) (l:=(aY.ev s i x 0 0 0).enc) rfl rfl (hk _ hs.to)
def o6:Ins:=⟨0,0,0,0⟩
theorem Cc (ho:s.Ok) (hs:Hs G h L) [m:Has (iY i p) L s L'] (hk:∀h',Hs G h' (iY i p s::L')→Q (if s.over then .tuple ⟨[.agg ⟨o6.enc⟩,.bool false]⟩ else .tuple ⟨[.agg ⟨(vU s.prog s.at').enc⟩,.bool true]⟩) h'):Cl Pr K 39 [pt p 0 0] h Q:=by
 obtain⟨a,c,hs⟩:=lH (m.of hs)
 refine cW (bK hs fun q h hs=>cS (bS (aB (aA (aA (aC (b:=p) (o:=0) hs rfl (Xh (s:=s) (a:=a) (c:=c) ho.1 rfl hs fun h hs=>?_)))))))
 rw[←ho.2.2.1]
 refine dA (fun h1=>?_) (fun h1=>?_)
 ·rw[h1,if_pos rfl] at hk
  refine aK (c:=o6.enc) rfl (bA (b:=q) hs rfl rfl rfl rfl fun h hs=>aN (b:=q) (o:=0) hs (by decide) (l:=o6.enc) rfl rfl (hk _ ?_))
  exact(jF p i s (a:=a) (c:=c) hs rfl rfl).to
 ·rw[h1] at hk
  have hlt:=Po (p:=s.prog) (a:=s.at') (by rw[←ho.2.2.1];exact h1)
  have h0:=ho.1
  refine aR hs fun rr h hs=>aB (aA (aC (b:=p) (o:=0) hs rfl (aB (aA (aA (aC (b:=p) (o:=0) hs rfl ?_))))))
  refine tE (l:=s.prog) (a:=a) (c:=c) (enc:=Ins.enc) (e:=86) (x:=vU s.prog s.at') hs (by decide) h0 ?_ ?_
  ·unfold vU;rw[List.getD_eq_getElem?_getD,List.getElem?_eq_getElem (by omega)];rfl
  refine bA (b:=q) hs rfl rfl rfl rfl fun h hs=>aN (b:=q) (o:=0) hs (by decide) (l:=(vU s.prog s.at').enc) rfl rfl (hk _ ?_)
  exact(jF p i s (a:=a) (c:=c) hs rfl rfl).to
theorem Lj {x:Int} (hk:Q (.bool (Hu x)) h):Cl Pr K 50 [I x] h Q:=by
 unfold Hu at hk
 refine cW (bC (aS (fun h1=>?_) (fun h1=>bC (aS (fun h2=>?_) (fun h2=>bC ?_)))))
 ·rw[decide_eq_true (by omega)] at hk;exact hk
 ·rw[decide_eq_true (by omega)] at hk;exact hk
 ·rw[show decide (x=3∨x=4∨x=5)=decide (x=5) from decide_eq_decide.2 (by omega)] at hk;exact hk
end Go.Proofs.YtajjljbmfdboaaaGreatDoor
end
section
namespace Go.Proofs.YtajjljbmfdboaaaGreatDoor
open Go Go.Ab Go.Hm Go.At Go.Is Go.Mc
theorem yM {s:aY} (ho:s.Ok) (h:s.over=false):Fits (vU s.prog s.at') s.prog.length:=
 Tp (ho.2.2.2.2 _ (Q7 ho.1 (Po (by rw[←ho.2.2.1];exact h))))
set_option maxRecDepth 100000
variable {G:Bg} {h:AH} {L L' M:List HP} {Q:Value→AH→Prop} {s:aY} {i p:Nat}
theorem jD {v:Ev} {x:Int} {q2 q6:Nat} {z:List Value} {b:Value} (hz:z.length=7) (hx:0≤x) (hs:Hs G h (iY i p s::aE q6 0 v.enc::aE q2 0 z::L)) (hk:∀h',Hs G h' (iY i p (s.nA x)::L)→Q (.tuple ⟨[.agg ⟨v.enc⟩,b]⟩) h'):
  Cl Pr K 98 [pt p 0 0,I x] h fun _ h15=>aZ (rI h15 7 (pt q6 0 0)) fun v16=>aZ (sQ h15 7 (pt q2 0 0) v16) fun h17=>aZ (rI h17 7 (pt q2 0 0)) fun v18=>Q (.tuple ⟨[v18,b]⟩) h17:=by
 refine F2 (i:=i) (s:=s) hx hs fun h hs=>aN (b:=q6) (o:=0) hs (by decide) (l:=v.enc) rfl rfl (bA (b:=q2) hs (by rw[hz];rfl) rfl rfl rfl fun h hs=>aN (b:=q2) (o:=0) hs (by decide) (l:=v.enc) rfl rfl (hk _ hs.to))
theorem S4 (ho:s.Ok) (hs:Hs G h L) [m:Has (iY i p) L s L']
  (hk:∀h',Hs G h' (iY i p (match aY.mU s i with|some r=>r.1|none=>s)::L')→Q (match aY.mU s i with|some r=> .tuple ⟨[.agg ⟨r.2.enc⟩,.bool true]⟩|none=> .tuple ⟨[.agg ⟨D5.enc⟩,.bool false]⟩) h'):Cl Pr K 37 [pt p 0 0] h Q:=by
 have hs:=m.of hs
 have h0:=ho.1
 unfold aY.mU aY.next? at hk
 refine cW (bK (cs:=D5.enc) hs fun q2 h hs=>Cc (i:=i) (s:=s) ho hs fun h hs=>?_)
 cases hov:s.over with
 |true=>
  simp only[hov,if_true] at hk ⊢
  refine aG rfl (aG rfl (bK hs fun q4 h hs=>bA (b:=q4) hs rfl rfl rfl rfl fun h hs=>bU (dY (aK (c:=D5.enc) rfl ?_))))
  refine bA (b:=q2) hs rfl rfl rfl rfl fun h hs=>aN (b:=q2) (o:=0) hs (by decide) (l:=D5.enc) rfl rfl (hk _ hs.to)
 |false=>
  have hf:=yM ho hov
  simp only[hov,Bool.false_eq_true,if_false] at hk ⊢
  generalize hx:vU s.prog s.at'=x at hk hf
  refine aG rfl (aG rfl (bK hs fun q4 h hs=>bA (b:=q4) hs rfl rfl rfl rfl fun h hs=>bU (bS ?_)))
  obtain⟨a,c,hs⟩:=lH (hs.front (iY i p s))
  refine bW (aN (b:=q4) (o:=0) hs (by decide) (l:=x.enc) rfl rfl (Sb (a:=a) (c:=c) (s:=s) hs fun h hs=>bK hs fun q6 h hs=>bA (b:=q6) hs rfl rfl rfl rfl fun h hs=>?_))
  refine aB (aA (aA (aC (b:=p) (o:=0) hs rfl (bI (by have:=ho.2.1;omega) (aA (aC (b:=q4) (o:=0) hs rfl ?_))))))
  have hs:Hs G h (aE q4 0 x.enc::aE q6 0 (aY.ev s i x 0 0 0).enc::aE q2 0 D5.enc::aE p 0 (pK i s a c)::P4 a c s.prog::L'):=hs.to
  have shut:∀{h:AH} {s':aY} {M:List HP} {v:Ev},s'.prog=s.prog→Hs G h (aE q6 0 v.enc::aE q2 0 D5.enc::aE p 0 (pK i s' a c)::P4 a c s.prog::L')→Hs G h (iY i p s'::aE q6 0 v.enc::aE q2 0 D5.enc::L'):=by
   intro h s' M v hp hs
   exact jF p i s' (a:=a) (c:=c) hs rfl hp.symm
  refine bC (aS (fun c1=>?_) (fun c1=>bW (bC (aS (fun c2=>?_) (fun c2=>bW (bC (aS (fun c6=>?_) (fun c6=>bW (bC (aS (fun c7=>?_) (fun c7=>bW (bC (aS (fun c9=>?_) (fun c9=>bW (bC (aS (fun c10=>?_) (fun c10=>?_)))))))))))))))))
  ·simp only[c1,if_true] at hk
   have hr:=hf.r1 (by omega)
   refine bW (aA (aC (b:=q4) (o:=0) hs rfl (aA (bE (b:=q6) (o:=0) hs rfl rfl rfl rfl fun h hs=>aR hs fun rr h hs=>aA (aC (b:=q4) (o:=0) hs rfl (aA (aC (b:=q6) (o:=0) hs rfl (Ai (s:=s) (a:=a) (c:=c) hs hr fun h hs=>?_))))))))
   have hs:=hs.sg (b:=q6) (o:=0) (c:=(aY.ev s i x 0 x.b 0).enc) rfl
   exact jD (s:=s.dN x.a x.b) (v:=aY.ev s i x 0 x.b 0) rfl (by omega) (shut (M:=L) (s':=s.dN x.a x.b) rfl hs.to) hk
  ·simp only[c2,if_true] at hk
   have hr:=hf.r1 (by omega)
   have hr2:=hf.r2 (by omega)
   have hr3:=hf.r3 (by omega)
   refine bW (aR hs fun rr h hs=>aA (aC (b:=q4) (o:=0) hs rfl (xA (s:=s) (i:=i) (a:=a) (c:=c) hs hr2 (aA (aC (b:=q4) (o:=0) hs rfl (xA (s:=s) (i:=i) (a:=a) (c:=c) hs hr3 (Vd (aA ?_))))))))
   refine bE (b:=q6) (o:=0) hs rfl rfl rfl rfl fun h hs=>aR hs fun rr2 h hs=>aA (aC (b:=q4) (o:=0) hs rfl (aA (aC (b:=q6) (o:=0) hs rfl (Ai (s:=s) (a:=a) (c:=c) hs hr fun h hs=>?_))))
   have hs:=hs.sg (b:=q6) (o:=0) (c:=(aY.ev s i x 0 (wr (s.cX x.b.toNat+s.cX x.c.toNat)) 0).enc) rfl
   exact jD (s:=s.dN x.a (wr (s.cX x.b.toNat+s.cX x.c.toNat))) (v:=aY.ev s i x 0 (wr (s.cX x.b.toNat+s.cX x.c.toNat)) 0) rfl (by omega) (shut (M:=L) (s':=s.dN x.a (wr (s.cX x.b.toNat+s.cX x.c.toNat))) rfl hs.to) hk
  ·simp only[c6,if_true] at hk
   exact bW (jD (s:=s) (v:=aY.ev s i x 0 0 0) rfl (by omega) (shut (M:=L) (s':=s) rfl hs.to) hk)
  ·simp only[c7,if_true] at hk
   refine bW (aA (aC (b:=q4) (o:=0) hs rfl (aA (bE (b:=q6) (o:=0) hs rfl rfl rfl rfl fun h hs=>aB (aA (aA (aC (b:=p) (o:=0) hs rfl (bC (aS (fun w0=>?_) (fun w0=>?_))))))))))
   ·simp only[w0,if_true] at hk
    refine bW (aA (aC (b:=q4) (o:=0) hs rfl (aB (aA (aA (bE (b:=p) (o:=0) hs rfl rfl rfl rfl fun h hs=>?_))))))
    have hs:=(hs.sg (b:=q6) (o:=0) (c:=(aY.ev s i x 0 x.a 0).enc) rfl).sg (b:=p) (o:=0) (c:=pK i (s.kh x.a) a c) rfl
    exact jD (s:=s.kh x.a) (v:=aY.ev s i x 0 x.a 0) rfl (by omega) (shut (M:=L) (s':=s.kh x.a) rfl hs.to) hk
   ·simp only[if_neg w0] at hk
    refine bW (aA (bE (b:=q6) (o:=0) hs rfl rfl rfl rfl fun h hs=>?_))
    have hs:=hs.sg (b:=q6) (o:=0) (c:=(aY.ev s i x 0 x.a 18).enc) rfl
    exact jD (s:=s) (v:=aY.ev s i x 0 x.a 18) rfl (by omega) (shut (M:=L) (s':=s) rfl hs.to) hk
  ·simp only[c9,if_true] at hk
   have hp:=hf.p1 (by omega)
   refine bW (aA (aC (b:=q4) (o:=0) hs rfl (aA (bE (b:=q6) (o:=0) hs rfl rfl rfl rfl fun h hs=>aA (aC (b:=q4) (o:=0) hs rfl ?_)))))
   have hs:=hs.sg (b:=q6) (o:=0) (c:=(aY.ev s i x 0 x.a 0).enc) rfl
   exact jD (s:=s) (v:=aY.ev s i x 0 x.a 0) rfl (by omega) (shut (M:=L) (s':=s) rfl hs.to) hk
  ·simp only[c10,if_true] at hk
   have hr:=hf.r1 (by omega)
   have hp:=hf.p2 (by omega)
   refine bW (aR hs fun rr h hs=>aA (aC (b:=q4) (o:=0) hs rfl (xA (s:=s) (i:=i) (a:=a) (c:=c) hs hr (aA ?_))))
   refine bE (b:=q6) (o:=0) hs rfl rfl rfl rfl fun h hs=>aA (aC (b:=q6) (o:=0) hs rfl (bC (aS (fun w0=>?_) (fun w0=>?_))))
   ·have w0:s.cX x.a.toNat=0:=w0
    simp only[if_pos w0] at hk
    have hs:=hs.sg (b:=q6) (o:=0) (c:=(aY.ev s i x 0 (s.cX x.a.toNat) 0).enc) rfl
    refine bW (aA (aC (b:=q4) (o:=0) hs rfl ?_))
    exact jD (s:=s) (v:=aY.ev s i x 0 (s.cX x.a.toNat) 0) rfl (by omega) (shut (M:=L) (s':=s) rfl hs.to) hk
   ·have w0:¬s.cX x.a.toNat=0:=w0
    simp only[if_neg w0] at hk
    have hs:=hs.sg (b:=q6) (o:=0) (c:=(aY.ev s i x 0 (s.cX x.a.toNat) 0).enc) rfl
    exact bW (jD (s:=s) (v:=aY.ev s i x 0 (s.cX x.a.toNat) 0) rfl (by omega) (shut (M:=L) (s':=s) rfl hs.to) hk)
  ·simp only[if_neg c1,if_neg c2,if_neg c6,if_neg c7,if_neg c9,if_neg c10] at hk
   refine aK (c:=D5.enc) rfl (bA (b:=q2) hs rfl rfl rfl rfl fun h hs=>aN (b:=q2) (o:=0) hs (by decide) (l:=D5.enc) rfl rfl (hk _ ?_))
   exact(jF p i s (a:=a) (c:=c) hs rfl rfl).to
end Go.Proofs.YtajjljbmfdboaaaGreatDoor
end
section
namespace Go.Proofs.YtajjljbmfdboaaaGreatDoor
open Go Go.Ab Go.Hm Go.At Go.Is Go.Mc
def qT (a:Acc):List Value:=[I a.word,.bool a.write,.bool a.read,I a.value]
def Nx:Acc:=⟨0,false,false,0⟩
def gf:Mc.Ask:=⟨0,0,0,0,0⟩
set_option maxRecDepth 100000
variable {G:Bg} {h:AH} {L L' M:List HP} {Q:Value→AH→Prop} {s:aY} {i p:Nat}
theorem Ml (ho:s.Ok) (hs:Hs G h L) [m:Has (iY i p) L s L']
  (hk:∀h',Hs G h' (iY i p s::L')→Q (match aY.Gi s with|some a=> .tuple ⟨[.agg ⟨qT a⟩,.bool true]⟩|none=> .tuple ⟨[.agg ⟨qT Nx⟩,.bool false]⟩) h'):Cl Pr K 41 [pt p 0 0] h Q:=by
 have hs:=m.of hs
 unfold aY.Gi aY.next? at hk
 refine cW (bK (cs:=qT Nx) hs fun q2 h hs=>Cc (i:=i) (s:=s) ho hs fun h hs=>?_)
 cases hov:s.over with
 |true=>
  simp only[hov,if_true] at hk ⊢
  refine aG rfl (aG rfl (bK hs fun q4 h hs=>bA (b:=q4) hs rfl rfl rfl rfl fun h hs=>bU (dY (aK (c:=qT Nx) rfl ?_))))
  refine bA (b:=q2) hs rfl rfl rfl rfl fun h hs=>aN (b:=q2) (o:=0) hs (by decide) (l:=qT Nx) rfl rfl (hk _ hs.to)
 |false=>
  have hf:=yM ho hov
  simp only[hov,Bool.false_eq_true,if_false] at hk ⊢
  generalize hx:vU s.prog s.at'=x at hk hf
  refine aG rfl (aG rfl (bK hs fun q4 h hs=>bA (b:=q4) hs rfl rfl rfl rfl fun h hs=>bU (bS (aA (aC (b:=q4) (o:=0) hs rfl (Lj (bU (dI (dA (fun hm=>?_) (fun hm=>?_))))))))))
  ·have hm:Hu x.op=true:=hm
   have hm':x.op=3∨x.op=4∨x.op=5:=of_decide_eq_true hm
   simp only[hm,if_true] at hk
   have hr:=hf.r1 (by omega)
   have hr2:=hf.r2 (by omega)
   obtain⟨a,c,hs⟩:=lH (hs.front (iY i p s))
   have hs:Hs G h (aE q4 0 x.enc::aE q2 0 (qT Nx)::aE p 0 (pK i s a c)::P4 a c s.prog::L'):=hs.to
   have fin:∀{h:AH} {M:List HP} (q6:Nat) (v:Acc),[Sub M L']→Hs G h (aE q6 0 (qT v)::aE q2 0 (qT Nx)::aE p 0 (pK i s a c)::P4 a c s.prog::M)→(∀h',Hs G h' (iY i p s::L')→Q (.tuple ⟨[.agg ⟨qT v⟩,.bool true]⟩) h')→
     aZ (rI h 4 (pt q6 0 0)) fun v1=>aZ (sQ h 4 (pt q2 0 0) v1) fun h2=>aZ (rI h2 4 (pt q2 0 0)) fun v3=>Q (.tuple ⟨[v3,.bool true]⟩) h2:=by
    intro h M q6 v _ hs hq
    refine aN (b:=q6) (o:=0) hs (by decide) (l:=qT v) rfl rfl (bA (b:=q2) hs rfl rfl rfl rfl fun h hs=>aN (b:=q2) (o:=0) hs (by decide) (l:=qT v) rfl rfl (hq _ ?_))
    exact(jF p i s (a:=a) (c:=c) hs rfl rfl).to
   refine bW (aR hs fun rr h hs=>aA (aC (b:=q4) (o:=0) hs rfl (xA (s:=s) (i:=i) (a:=a) (c:=c) hs hr2 (aK (c:=qT ⟨s.cX x.b.toNat,false,false,0⟩) rfl ?_))))
   refine jN (r:=rr) (i:=9) (n:=11) (D:=[]) (cs:=qT Nx) hs rfl rfl fun q6 h hs=>bA (b:=q6) hs rfl rfl rfl rfl fun h hs=>aA (aC (b:=q4) (o:=0) hs rfl (bC (aS (fun c3=>?_) (fun c3=>bW (bC (aS (fun c5=>?_) (fun c5=>bW (bC (aS (fun c4=>?_) (fun c4=>?_))))))))))
   ·rw[decide_eq_false (by omega),decide_eq_true (show x.op≠4 by omega),if_pos (show x.op=3 by omega)] at hk
    refine bW (aA (bE (b:=q6) (o:=0) hs rfl rfl rfl rfl fun h hs=>?_))
    have hs:=hs.sg (b:=q6) (o:=0) (c:=qT ⟨s.cX x.b.toNat,false,true,0⟩) rfl
    exact fin (M:=L') q6 ⟨s.cX x.b.toNat,false,true,0⟩ hs.to hk
   ·rw[decide_eq_true (show x.op≠3 by omega),decide_eq_true (show x.op≠4 by omega),if_neg (show ¬x.op=3 by omega)] at hk
    refine bW (aA (bE (b:=q6) (o:=0) hs rfl rfl rfl rfl fun h hs=>aA (bE (b:=q6) (o:=0) hs rfl rfl rfl rfl fun h hs=>aR hs fun rr h hs=>aA (aC (b:=q4) (o:=0) hs rfl (xA (s:=s) (i:=i) (a:=a) (c:=c) hs hr (aA (bE (b:=q6) (o:=0) hs rfl rfl rfl rfl fun h hs=>?_)))))))
    have hs:=hs.sg (b:=q6) (o:=0) (c:=qT ⟨s.cX x.b.toNat,true,true,s.cX x.a.toNat⟩) rfl
    exact fin (M:=L') q6 ⟨s.cX x.b.toNat,true,true,s.cX x.a.toNat⟩ hs.to hk
   ·rw[decide_eq_true (show x.op≠3 by omega),decide_eq_false (by omega),if_neg (show ¬x.op=3 by omega)] at hk
    refine bW (aA (bE (b:=q6) (o:=0) hs rfl rfl rfl rfl fun h hs=>aR hs fun rr h hs=>aA (aC (b:=q4) (o:=0) hs rfl (xA (s:=s) (i:=i) (a:=a) (c:=c) hs hr (aA (bE (b:=q6) (o:=0) hs rfl rfl rfl rfl fun h hs=>?_))))))
    have hs:=hs.sg (b:=q6) (o:=0) (c:=qT ⟨s.cX x.b.toNat,true,false,s.cX x.a.toNat⟩) rfl
    exact fin (M:=L') q6 ⟨s.cX x.b.toNat,true,false,s.cX x.a.toNat⟩ hs.to hk
   ·omega
  ·have hm:Hu x.op=false:=hm
   simp only[hm,Bool.false_eq_true,if_false] at hk
   refine aK (c:=qT Nx) rfl (bA (b:=q2) hs rfl rfl rfl rfl fun h hs=>aN (b:=q2) (o:=0) hs (by decide) (l:=qT Nx) rfl rfl (hk _ hs.to))
theorem zf (ho:s.Ok) (hs:Hs G h L) [m:Has (iY i p) L s L']
  (hk:∀h',Hs G h' (iY i p s::L')→Q (match aY.Vg s i with|some a=> .tuple ⟨[.agg ⟨a.enc⟩,.bool true]⟩|none=> .tuple ⟨[.agg ⟨gf.enc⟩,.bool false]⟩) h'):Cl Pr K 42 [pt p 0 0] h Q:=by
 have hs:=m.of hs
 unfold aY.Vg aY.next? at hk
 refine cW (bK (cs:=gf.enc) hs fun q2 h hs=>Cc (i:=i) (s:=s) ho hs fun h hs=>?_)
 cases hov:s.over with
 |true=>
  simp only[hov,if_true] at hk ⊢
  refine aG rfl (aG rfl (bK hs fun q4 h hs=>bA (b:=q4) hs rfl rfl rfl rfl fun h hs=>bU (dY (aK (c:=gf.enc) rfl ?_))))
  refine bA (b:=q2) hs rfl rfl rfl rfl fun h hs=>aN (b:=q2) (o:=0) hs (by decide) (l:=gf.enc) rfl rfl (hk _ hs.to)
 |false=>
  have hf:=yM ho hov
  simp only[hov,Bool.false_eq_true,if_false] at hk ⊢
  generalize hx:vU s.prog s.at'=x at hk hf
  refine aG rfl (aG rfl (bK hs fun q4 h hs=>bA (b:=q4) hs rfl rfl rfl rfl fun h hs=>bU (bS (aA (aC (b:=q4) (o:=0) hs rfl (aX (aS (fun c8=>?_) (fun c8=>?_))))))))
  ·have c8:¬x.op=8:=c8
   rw[if_neg c8] at hk
   refine aK (c:=gf.enc) rfl (bA (b:=q2) hs rfl rfl rfl rfl fun h hs=>aN (b:=q2) (o:=0) hs (by decide) (l:=gf.enc) rfl rfl (hk _ hs.to))
  ·have c8:x.op=8:=by have:¬x.op≠8:=c8;omega
   rw[if_pos c8] at hk
   have hr2:=hf.r2 (by omega)
   have hr3:=hf.r3 (by omega)
   obtain⟨a,c,hs⟩:=lH (hs.front (iY i p s))
   refine aR hs fun rr h hs=>aB (aA (aC (b:=p) (o:=0) hs rfl (aB (aA (aA (aC (b:=p) (o:=0) hs rfl (aA (aC (b:=q4) (o:=0) hs rfl (aA (aC (b:=q4) (o:=0) hs rfl ?_))))))))))
   refine xA (s:=s) (i:=i) (a:=a) (c:=c) hs hr2 (aA (aC (b:=q4) (o:=0) hs rfl (xA (s:=s) (i:=i) (a:=a) (c:=c) hs hr3 ?_)))
   refine aK (c:=(⟨i,s.world,x.a,s.cX x.b.toNat,s.cX x.c.toNat⟩:Mc.Ask).enc) rfl (bA (b:=q2) hs rfl rfl rfl rfl fun h hs=>aN (b:=q2) (o:=0) hs (by decide) (l:=(⟨i,s.world,x.a,s.cX x.b.toNat,s.cX x.c.toNat⟩:Mc.Ask).enc) rfl rfl (hk _ ?_))
   exact(jF p i s (a:=a) (c:=c) hs rfl rfl).to
theorem V9 {x:Ins} {q4 q6:Nat} {code:Int} {a:Option Addr} {c:Nat} {k:AH→Nat→Prop} {c0:Bool} (hc0:c0=true) (hr:0≤x.b∧x.b<4) (hs:Hs G h (aE q4 0 x.enc::aE q6 0 D5.enc::aE p 0 (pK i s a c)::P4 a c s.prog::L))
  (hk:∀q h',Hs G h' (aE q 0 (aY.ev s i x (s.cX x.b.toNat) 0 code).enc::aE q4 0 x.enc::aE q6 0 D5.enc::aE p 0 (pK i s a c)::P4 a c s.prog::L)→k h' q):
  aZ (rI h 4 (pt q4 0 0)) fun v0=>Cl Pr K 99 [pt p 0 0,v0] h fun v1 h1=>Bi h1 (.cells [(I 0),(I 0),(I 0),(I 0),(I 0),(I 0),(I 0)] 80 (0,0) true) fun p3 h2=>aZ (sQ h2 7 (pt p3 0 0) v1) fun h4=>Qb c0 h4 13 fun _ h5=>
   aZ (gI 2 (pt q4 0 0)) fun v7=>aZ (oM h5 v7) fun v8=>aZ (lF (pt p 0 0)) fun v9=>aZ (gI 0 v9) fun v10=>aZ (gI 0 v10) fun v11=>aZ (mX 4 1 v11 v8) fun v12=>aZ (oM h5 v12) fun v13=>aZ (gI 4 (pt p3 0 0)) fun v14=>aZ (sQ h5 1 v14 v13) fun h15=>aZ (gI 6 (pt p3 0 0)) fun v16=>aZ (sQ h15 1 v16 (I code)) fun h17=>
   (mB (I code) (I code)=true)∧k h17 p3:=by
 refine aN (b:=q4) (o:=0) hs (by decide) (l:=x.enc) rfl rfl (Sb (a:=a) (c:=c) (s:=s) (i:=i) hs fun h hs=>bK hs fun q h hs=>bA (b:=q) hs rfl rfl rfl rfl fun h hs=>aR (hc:=hc0) hs fun rr h hs=>aA (aC (b:=q4) (o:=0) hs rfl ?_))
 refine xA (s:=s) (i:=i) (a:=a) (c:=c) hs hr (aA (bE (b:=q) (o:=0) hs rfl rfl rfl rfl fun h hs=>aA (bE (b:=q) (o:=0) hs rfl rfl rfl rfl fun h hs=>cJ gW (hk _ _ ?_))))
 have hs:=hs.sg (b:=q) (o:=0) (c:=(aY.ev s i x (s.cX x.b.toNat) 0 code).enc) rfl
 exact hs.to
theorem Mu {value code:Int} (ho:s.Ok) (hs:Hs G h L) [m:Has (iY i p) L s L']
  (hk:∀h',Hs G h' (iY i p (aY.cC s i value code).1::L')→Q (.tuple ⟨[.agg ⟨(aY.cC s i value code).2.1.enc⟩,I (aY.cC s i value code).2.2]⟩) h'):Cl Pr K 38 [pt p 0 0,I value,I code] h Q:=by
 have hs:=m.of hs
 have h0:=ho.1
 have h32:=ho.2.1
 unfold aY.cC aY.next? at hk
 refine cW (bK (cs:=D5.enc) hs fun q6 h hs=>cS (bS (bW (Cc (i:=i) (s:=s) ho hs fun h hs=>?_))))
 have bad:∀{h:AH} {M:List HP} (e:Int),[Sub M (iY i p s::L')]→Hs G h (aE q6 0 D5.enc::M)→(∀h',Hs G h' (iY i p s::L')→Q (.tuple ⟨[.agg ⟨D5.enc⟩,I e]⟩) h')→
   aZ (lD [(I 0),(I 0),(I 0),(I 0),(I 0),(I 0),(I 0)] []) fun c5=>aZ (sQ h 7 (pt q6 0 0) (.agg ⟨c5⟩)) fun h6=>aZ (rI h6 7 (pt q6 0 0)) fun v7=>Q (.tuple ⟨[v7,(I e)]⟩) h6:=by
  intro h M e _ hs hq
  refine aK (c:=D5.enc) rfl (bA (b:=q6) hs rfl rfl rfl rfl fun h hs=>aN (b:=q6) (o:=0) hs (by decide) (l:=D5.enc) rfl rfl (hq _ ?_))
  exact hs.tail.to
 cases hov:s.over with
 |true=>
  simp only[hov,if_true] at hk ⊢
  refine aG rfl (aG rfl (bK hs fun q4 h hs=>bA (b:=q4) hs rfl rfl rfl rfl fun h hs=>bU (dY ?_)))
  exact bad (M:=iY i p s::L') 16 hs.to hk
 |false=>
  have hf:=yM ho hov
  simp only[hov,Bool.false_eq_true,if_false] at hk ⊢
  generalize hx:vU s.prog s.at'=x at hk hf
  refine aG rfl (aG rfl (bK hs fun q4 h hs=>bA (b:=q4) hs rfl rfl rfl rfl fun h hs=>bU (bS (aA (aC (b:=q4) (o:=0) hs rfl ?_)))))
  have tail:∀{h:AH} {a:Option Addr} {c q:Nat},(x.op=8∨Hu x.op=true∧(code=0∨code=19))→Hs G h (aE q 0 (aY.ev s i x (s.cX x.b.toNat) 0 code).enc::aE q4 0 x.enc::aE q6 0 D5.enc::aE p 0 (pK i s a c)::P4 a c s.prog::L')→
    aZ (gI 0 (pt q4 0 0)) fun v18=>aZ (oM h v18) fun v19=>aZ (tJ .eql v19 (I 8)) fun v20=>Br v20 (Dd 38 4 [] Q [(pt p 0 0),(I code),(pt q6 0 0),(pt q4 0 0),(pt q 0 0)] h) (Dd 38 5 [] Q [(pt p 0 0),(I value),(I code),(pt q6 0 0),(pt q4 0 0),(pt q 0 0)] h):=by
   intro h a c q hc hs
   have shut:∀{h:AH} {s':aY} {v:Ev},s'.prog=s.prog→Hs G h (aE q 0 v.enc::aE q6 0 D5.enc::aE p 0 (pK i s' a c)::P4 a c s.prog::L')→Hs G h (iY i p s'::aE q 0 v.enc::aE q6 0 D5.enc::L'):=by
    intro h s' v hp hs
    exact jF p i s' (a:=a) (c:=c) hs rfl hp.symm
   refine aA (aC (b:=q4) (o:=0) hs rfl (bC (aS (fun c8=>?_) (fun c8=>bW ?_))))
   ·have c8:x.op=8:=c8
    simp only[c8,if_true] at hk
    have hr2:=hf.r2 (by omega)
    have hr3:=hf.r3 (by omega)
    refine bW (aR hs fun rr h hs=>aA (aC (b:=q4) (o:=0) hs rfl (xA (s:=s) (i:=i) (a:=a) (c:=c) hs hr3 (aA (bE (b:=q) (o:=0) hs rfl rfl rfl rfl fun h hs=>aR hs fun rr h hs=>aA (aC (b:=q4) (o:=0) hs rfl (Ai (s:=s) (a:=a) (c:=c) hs hr2 fun h hs=>?_)))))))
    refine aB (aA (aA (aC (b:=p) (o:=0) hs rfl (bI (by show -9223372036854775808≤s.at'+1∧s.at'+1≤_;omega) ?_))))
    have hs:=hs.sg (b:=q) (o:=0) (c:=(aY.ev s i x (s.cX x.b.toNat) (s.cX x.c.toNat) code).enc) rfl
    exact jD (s:=s.dN x.b code) (v:=aY.ev s i x (s.cX x.b.toNat) (s.cX x.c.toNat) code) (x:=s.at'+1) rfl (by omega) (shut (s':=s.dN x.b code) rfl hs.to) hk
   ·have c8:¬x.op=8:=c8
    obtain⟨hm,hc⟩:Hu x.op=true∧(code=0∨code=19):=by rcases hc with h|h;exact absurd h c8;exact h
    have hm':x.op=3∨x.op=4∨x.op=5:=of_decide_eq_true hm
    have hr:=hf.r1 (by omega)
    simp only[if_neg c8,hm,if_true] at hk
    rw[if_neg (by omega)] at hk
    refine bC (aS (fun c19=>?_) (fun c19=>bW (aA (aC (b:=q4) (o:=0) hs rfl (bC (aS (fun c4=>?_) (fun c4=>?_)))))))
    ·simp only[c19,if_true] at hk
     subst c19
     refine bW (aB (aA (aA (aC (b:=p) (o:=0) hs rfl (bI (by omega) ?_)))))
     exact jD (s:=s) (v:=aY.ev s i x (s.cX x.b.toNat) 0 19) (x:=s.at'+1) rfl (by omega) (shut (s':=s) rfl hs.to) hk
    ·have c4:x.op=4:=c4
     simp only[if_neg c19,c4,if_true] at hk
     have hc0:code=0:=by omega
     subst hc0
     refine bW (aR hs fun rr h hs=>aA (aC (b:=q4) (o:=0) hs rfl (xA (s:=s) (i:=i) (a:=a) (c:=c) hs hr (aA (bE (b:=q) (o:=0) hs rfl rfl rfl rfl fun h hs=>aB (aA (aA (aC (b:=p) (o:=0) hs rfl (bI (by show -9223372036854775808≤s.at'+1∧s.at'+1≤_;omega) ?_)))))))))
     have hs:=hs.sg (b:=q) (o:=0) (c:=(aY.ev s i x (s.cX x.b.toNat) (s.cX x.a.toNat) 0).enc) rfl
     exact jD (s:=s) (v:=aY.ev s i x (s.cX x.b.toNat) (s.cX x.a.toNat) 0) (x:=s.at'+1) rfl (by omega) (shut (s':=s) rfl hs.to) hk
    ·have c4:¬x.op=4:=c4
     simp only[if_neg c19,if_neg c4] at hk
     have hc0:code=0:=by omega
     subst hc0
     refine bW (aA (bE (b:=q) (o:=0) hs rfl rfl rfl rfl fun h hs=>aR hs fun rr h hs=>aA (aC (b:=q4) (o:=0) hs rfl (Ai (s:=s) (a:=a) (c:=c) hs hr fun h hs=>aB (aA (aA (aC (b:=p) (o:=0) hs rfl (bI (by show -9223372036854775808≤s.at'+1∧s.at'+1≤_;omega) ?_))))))))
     have hs:=hs.sg (b:=q) (o:=0) (c:=(aY.ev s i x (s.cX x.b.toNat) value 0).enc) rfl
     exact jD (s:=s.dN x.a value) (v:=aY.ev s i x (s.cX x.b.toNat) value 0) (x:=s.at'+1) rfl (by omega) (shut (s':=s.dN x.a value) rfl hs.to) hk
  have opn:∀{h:AH} {M:List HP},[Sub M L']→Hs G h (aE q4 0 x.enc::aE q6 0 D5.enc::iY i p s::M)→∃a c,Hs G h (aE q4 0 x.enc::aE q6 0 D5.enc::aE p 0 (pK i s a c)::P4 a c s.prog::L'):=by
   intro h M _ hs
   obtain⟨a,c,hs⟩:=lH (hs.front (iY i p s))
   exact⟨a,c,hs.to⟩
  have hs:Hs G h (aE q4 0 x.enc::aE q6 0 D5.enc::iY i p s::L'):=hs.to
  refine aX (aS (fun c8=>?_) (fun c8=>?_))
  ·have c8:¬x.op=8:=c8
   refine aA (aC (b:=q4) (o:=0) hs rfl (Lj (bU (dI (dA (fun hm=>?_) (fun hm=>?_))))))
   ·have hm:Hu x.op=true:=hm
    have hm':x.op=3∨x.op=4∨x.op=5:=of_decide_eq_true hm
    have hr2:=hf.r2 (by omega)
    refine bW (aA (aC (b:=q4) (o:=0) hs rfl (aX (bM c8 (aX (aS (fun e0=>aX (aS (fun e19=>?_) (fun e19=>?_))) (fun e0=>?_)))))))
    ·simp only[if_neg c8,hm,if_true] at hk
     rw[if_pos ⟨e0,e19⟩] at hk
     exact bad (M:=iY i p s::L') 1 hs.to hk
    ·obtain⟨a,c,hs⟩:=opn (M:=L') hs
     refine bW (V9 (k:=fun h q=>aZ (gI 0 (pt q4 0 0)) fun v18=>aZ (oM h v18) fun v19=>aZ (tJ .eql v19 (I 8)) fun v20=>Br v20 (Dd 38 4 [] Q [(pt p 0 0),(I code),(pt q6 0 0),(pt q4 0 0),(pt q 0 0)] h) (Dd 38 5 [] Q [(pt p 0 0),(I value),(I code),(pt q6 0 0),(pt q4 0 0),(pt q 0 0)] h)) (by kernel_rfl) hr2 hs fun q h hs=>tail (.inr ⟨hm,by omega⟩) hs)
    ·obtain⟨a,c,hs⟩:=opn (M:=L') hs
     exact V9 (k:=fun h q=>aZ (gI 0 (pt q4 0 0)) fun v18=>aZ (oM h v18) fun v19=>aZ (tJ .eql v19 (I 8)) fun v20=>Br v20 (Dd 38 4 [] Q [(pt p 0 0),(I code),(pt q6 0 0),(pt q4 0 0),(pt q 0 0)] h) (Dd 38 5 [] Q [(pt p 0 0),(I value),(I code),(pt q6 0 0),(pt q4 0 0),(pt q 0 0)] h)) (by kernel_rfl) hr2 hs fun q h hs=>tail (.inr ⟨hm,by omega⟩) hs
   ·have hm:Hu x.op=false:=hm
    simp only[if_neg c8,hm,Bool.false_eq_true,if_false] at hk
    exact bad (M:=iY i p s::L') 16 hs.to hk
  ·have c8:x.op=8:=by have:¬x.op≠8:=c8;omega
   have hr2:=hf.r2 (by omega)
   refine aA (aC (b:=q4) (o:=0) hs rfl (aX (aI (by show ¬x.op≠8;omega) ?_)))
   obtain⟨a,c,hs⟩:=opn (M:=L') hs
   exact V9 (k:=fun h q=>aZ (gI 0 (pt q4 0 0)) fun v18=>aZ (oM h v18) fun v19=>aZ (tJ .eql v19 (I 8)) fun v20=>Br v20 (Dd 38 4 [] Q [(pt p 0 0),(I code),(pt q6 0 0),(pt q4 0 0),(pt q 0 0)] h) (Dd 38 5 [] Q [(pt p 0 0),(I value),(I code),(pt q6 0 0),(pt q4 0 0),(pt q 0 0)] h)) (by kernel_rfl) hr2 hs fun q h hs=>tail (.inl c8) hs
end Go.Proofs.YtajjljbmfdboaaaGreatDoor
end
section
namespace Go.Proofs.YtajjljbmfdboaaaGreatDoor
open Go Go.Ab Go.Hm Go.At Go.Is Go.Mc
set_option maxRecDepth 100000
variable {G:Bg} {h:AH} {L L' M:List HP} {Q:Value→AH→Prop} {s:aY} {i p:Nat}
theorem Xo {α:Type} {enc:α→List Value} {l:List α}:(l.map enc).flatten=eL enc l:=by simp[eL,List.flatMap]
theorem O4 {v:Value} {e:TypeId} {l:List Ins} (hb:l.length≤1000) (hs:Hs G h (wY G 4 e v (l.map Ins.enc)::L)) (hk:∀a c h',Hs G h' (P4 a c l::wY G 4 e v (l.map Ins.enc)::L)→Q (.slice a l.length c) h'):Cl Pr K 95 [v] h Q:=by
 refine cW (Iq (bytes:=32) (e:=86) hs (by decide) (List.length_map ..) (by rw[Xo];exact Iy) (by omega) fun a c h hs=>hk a c h ?_)
 rw[Xo] at hs
 exact hs
theorem Lf {v:Value} {w:Int} {e:TypeId} {pr:List Ins} (hi:i<4) (hw:0≤w∧w≤3) (hg:Ob G 1 sF) (hc:(jH pr).2=0) (hs:Hs G h (wY G 4 e v (pr.map Ins.enc)::L))
  (hk:∀p h',Hs G h' (iY i p (pT pr w)::wY G 4 e v (pr.map Ins.enc)::L)→Q (.tuple ⟨[pt p 0 0,I 0]⟩) h'):Cl Pr K 36 [I i,I w,v] h Q:=by
 have hlen:pr.length≤32:=by
  unfold jH at hc
  split at hc
  ·cases hc
  ·omega
 refine cW (aU (aI (by omega) (dM (aI (by omega) (aU (aI (by omega) (kG (aI (by omega) (bW (Cp hg hs fun h hs=>aG rfl (aG rfl (aX (aI (by omega) (bW ?_))))))))))))))
 refine O4 (l:=pr) (by omega) hs fun a c h hs=>?_
 refine aK (c:=pK i ⟨fun _=>0,0,0,false,pr⟩ a c) rfl (dJ hs fun p h hs=>aB (aA (aA (bE (b:=p) (o:=0) hs rfl rfl rfl rfl fun h hs=>?_))))
 have hs:Hs G h (aE p 0 (pK i ⟨fun _=>0,0,w,false,pr⟩ a c)::P4 a c pr::wY G 4 e v (pr.map Ins.enc)::L):=hs
 have hs:=jF p i ⟨fun _=>0,0,w,false,pr⟩ (a:=a) (c:=c) hs rfl rfl
 exact F2 (i:=i) (s:=⟨fun _=>0,0,w,false,pr⟩) (by omega) hs fun h hs=>hk _ _ hs
end Go.Proofs.YtajjljbmfdboaaaGreatDoor
end
section
namespace Go.Proofs.YtajjljbmfdboaaaGreatDoor
open Go Go.Ab Go.Hm Go.At Go.Mc Go.Ct
instance:Fx Ev.enc 7 where
 len _:=rfl
 cel _:=rfl
structure MN where
 lc:List Nat
 lk:List Nat
 lq:List Nat
 ac:Option Addr
 ak:Option Addr
 aq:Option Addr
 al:Option Addr
 cc:Nat
 ck:Nat
 cq:Nat
 cl:Nat
 hb:Nat
 mb:Nat
 fb:Nat
def eU (Cf:bQ) (x:MN) (n:Nat):List Value:=Cf.enc++[.slice x.ac x.lc.length x.cc,.slice x.ak x.lk.length x.ck,.slice x.aq x.lq.length x.cq,pt x.hb 0 0,pt x.mb 0 0,pt x.fb 0 0,.slice x.al n x.cl]
def cy (Cf:bQ) (x:MN):Prop:=x.lc.length=Cf.aF.toNat∧x.lk.length=Cf.aF.toNat∧x.lq.length=Cf.aF.toNat
abbrev pZ:Nat→Nat→aY→HP:=fun i p s=>iY i p s
abbrev pO (G:Bg) (Cf:bQ):Nat→Nat→iT→HP:=fun i p s=>C.fU G p Cf i s
abbrev nL (Cf:bQ):Nat→Nat→lQ→HP:=fun _ p s=>iS p Cf s
abbrev zU (a:Option Addr) (c:Nat) (l:List Ev):HP:=ls Ev.enc 7 80 a c l
abbrev fu (a:Option Addr) (c:Nat) (l:List Nat):HP:=ls pE 1 75 a c l
abbrev T0 (a:Option Addr) (c:Nat) (l:List Nat):HP:=ls pE 1 137 a c l
abbrev Tz (a:Option Addr) (c:Nat) (l:List Nat):HP:=ls pE 1 140 a c l
def Ld (G:Bg) (Cf:bQ) (m:Nat) (M:cY) (x:MN):List HP:=[zD (cy Cf x),aE m 0 (eU Cf x M.log.length),fu x.ac x.cc x.lc,T0 x.ak x.ck x.lk,Tz x.aq x.cq x.lq,
  pQ pZ x.lc M.aH,pQ (pO G Cf) x.lk M.dK,pQ (nL Cf) x.lq M.cR,H.fN G x.hb Cf M.home,fC Cf x.mb M.dQ,sH Cf x.fb M.mI,zU x.al x.cl M.log]
def tM (G:Bg) (Cf:bQ) (m:Nat) (x:MN) (M:cY):HP:=sp (Ld G Cf m M x)
def bG (G:Bg) (Cf:bQ) (m:Nat) (M:cY):HP:=sS fun x:MN=>sp (Ld G Cf m M x)
set_option maxRecDepth 100000
variable {G:Bg} {h:AH} {L L':List HP} {Q:Value→AH→Prop} {Cf:bQ} {m:Nat} {M:cY}
theorem cH (hs:Hs G h (bG G Cf m M::L)):∃x,cy Cf x∧Hs G h (aE m 0 (eU Cf x M.log.length)::fu x.ac x.cc x.lc::T0 x.ak x.ck x.lk::Tz x.aq x.cq x.lq::
  pQ pZ x.lc M.aH::pQ (pO G Cf) x.lk M.dK::pQ (nL Cf) x.lq M.cR::H.fN G x.hb Cf M.home::fC Cf x.mb M.dQ::sH Cf x.fb M.mI::zU x.al x.cl M.log::L):=by
 obtain⟨x,hs⟩:=hs.Be
 obtain⟨hl,hs⟩:=Hs.r7 hs.unpack
 exact⟨x,hl,hs⟩
theorem tY {x:MN} (hl:cy Cf x) (hs:Hs G h (aE m 0 (eU Cf x M.log.length)::fu x.ac x.cc x.lc::T0 x.ak x.ck x.lk::Tz x.aq x.cq x.lq::
  pQ pZ x.lc M.aH::pQ (pO G Cf) x.lk M.dK::pQ (nL Cf) x.lq M.cR::H.fN G x.hb Cf M.home::fC Cf x.mb M.dQ::sH Cf x.fb M.mI::zU x.al x.cl M.log::L)):Hs G h (bG G Cf m M::L):=
 Hs.wM (A:=fun x:MN=>sp (Ld G Cf m M x)) x (Hs.pack (A:=Ld G Cf m M x) (Hs.Qt hl hs))
theorem bB {x:MN} (M:cY) (hl:cy Cf x) {L1 L2 L3 L4 L5 L6 L7 L8 L9 L10 L11:List HP} (hs:Hs G h L) [k1:dX (aE m 0 (eU Cf x M.log.length)) L L1] [k2:dX (fu x.ac x.cc x.lc) L1 L2] [k3:dX (T0 x.ak x.ck x.lk) L2 L3] [k4:dX (Tz x.aq x.cq x.lq) L3 L4] [k5:dX (pQ pZ x.lc M.aH) L4 L5] [k6:dX (pQ (pO G Cf) x.lk M.dK) L5 L6] [k7:dX (pQ (nL Cf) x.lq M.cR) L6 L7] [k8:dX (H.fN G x.hb Cf M.home) L7 L8] [k9:dX (fC Cf x.mb M.dQ) L8 L9] [k10:dX (sH Cf x.fb M.mI) L9 L10] [k11:dX (zU x.al x.cl M.log) L10 L11]:Hs G h (bG G Cf m M::L11):=
 tY (x:=x) hl (hs.perm (k1.perm.trans ((k2.perm.trans ((k3.perm.trans ((k4.perm.trans ((k5.perm.trans ((k6.perm.trans ((k7.perm.trans ((k8.perm.trans ((k9.perm.trans ((k10.perm.trans ((k11.perm).cons _)).cons _)).cons _)).cons _)).cons _)).cons _)).cons _)).cons _)).cons _)).cons _)))
theorem Ao {x:MN} (M:cY) (hl:cy Cf x) {L1 L2 L3 L4 L5 L6 L7 L8 L9 L10 L11:List HP} (hs:Hs G h L) [k1:dX (aE m 0 (eU Cf x M.log.length)) L L1] [k2:dX (fu x.ac x.cc x.lc) L1 L2] [k3:dX (T0 x.ak x.ck x.lk) L2 L3] [k4:dX (Tz x.aq x.cq x.lq) L3 L4] [k5:dX (pQ pZ x.lc M.aH) L4 L5] [k6:dX (pQ (pO G Cf) x.lk M.dK) L5 L6] [k7:dX (pQ (nL Cf) x.lq M.cR) L6 L7] [k8:dX (H.fN G x.hb Cf M.home) L7 L8] [k9:dX (fC Cf x.mb M.dQ) L8 L9] [k10:dX (sH Cf x.fb M.mI) L9 L10] [k11:dX (zU x.al x.cl M.log) L10 L11]:Hs G h (tM G Cf m x M::L11):=
 Hs.pack (A:=Ld G Cf m M x) (Hs.Qt hl (hs.perm (k1.perm.trans ((k2.perm.trans ((k3.perm.trans ((k4.perm.trans ((k5.perm.trans ((k6.perm.trans ((k7.perm.trans ((k8.perm.trans ((k9.perm.trans ((k10.perm.trans ((k11.perm).cons _)).cons _)).cons _)).cons _)).cons _)).cons _)).cons _)).cons _)).cons _)).cons _))))
theorem uC {x:MN} (hs:Hs G h (tM G Cf m x M::L)):cy Cf x∧Hs G h (aE m 0 (eU Cf x M.log.length)::fu x.ac x.cc x.lc::T0 x.ak x.ck x.lk::Tz x.aq x.cq x.lq::
  pQ pZ x.lc M.aH::pQ (pO G Cf) x.lk M.dK::pQ (nL Cf) x.lq M.cR::H.fN G x.hb Cf M.home::fC Cf x.mb M.dQ::sH Cf x.fb M.mI::zU x.al x.cl M.log::L):=Hs.r7 hs.unpack
theorem m5 (hs:Hs G h (bG G Cf m M::L)):∃x,Hs G h (tM G Cf m x M::L):=hs.Be
theorem pn {x:MN} (hs:Hs G h (tM G Cf m x M::L)):Hs G h (bG G Cf m M::L):=Hs.wM (A:=fun x:MN=>sp (Ld G Cf m M x)) x hs
theorem Ji {a:Option Addr} {c i:Nat} {l:List Nat} {k:Value→Prop} (hs:Hs G h L) [mm:Has (fu a c) L l L'] (hi:i<l.length) (hk:k (pt (l.getD i 0) 0 0)):aZ (jR 1 (.slice a l.length c) (I i)) fun p=>aZ (oM h p) k:=
 qb (e:=75) (show Hs G h (fu a c l::L') from mm.of hs) hi hk
theorem Jf {a:Option Addr} {c i:Nat} {l:List Nat} {k:Value→Prop} (hs:Hs G h L) [mm:Has (T0 a c) L l L'] (hi:i<l.length) (hk:k (pt (l.getD i 0) 0 0)):aZ (jR 1 (.slice a l.length c) (I i)) fun p=>aZ (oM h p) k:=
 qb (e:=137) (show Hs G h (T0 a c l::L') from mm.of hs) hi hk
theorem W8 {a:Option Addr} {c i q:Nat} {l:List Nat} {k:AH→Prop} (hs:Hs G h L) [mm:Has (T0 a c) L l L'] (hi:i<l.length) (hk:∀h',Hs G h' (T0 a c (l.set i q)::L')→k h'):aZ (jR 1 (.slice a l.length c) (I i)) fun p=>aZ (sQ h 1 p (pt q 0 0)) k:=
 iw (e:=137) (show Hs G h (T0 a c l::L') from mm.of hs) hi hk
theorem Hi {a:Option Addr} {c i:Nat} {l:List Nat} {k:Value→Prop} (hs:Hs G h L) [mm:Has (Tz a c) L l L'] (hi:i<l.length) (hk:k (pt (l.getD i 0) 0 0)):aZ (jR 1 (.slice a l.length c) (I i)) fun p=>aZ (oM h p) k:=
 qb (e:=140) (show Hs G h (Tz a c l::L') from mm.of hs) hi hk
theorem Oc {a:Option Addr} {c i q:Nat} {l:List Nat} {k:AH→Prop} (hs:Hs G h L) [mm:Has (Tz a c) L l L'] (hi:i<l.length) (hk:∀h',Hs G h' (Tz a c (l.set i q)::L')→k h'):aZ (jR 1 (.slice a l.length c) (I i)) fun p=>aZ (sQ h 1 p (pt q 0 0)) k:=
 iw (e:=140) (show Hs G h (Tz a c l::L') from mm.of hs) hi hk
theorem B6 {l:List Nat} {s:Nat→aY} {i:Nat} {t:aY} (hi:i<l.length) (hs:Hs G h L) [k:dX (iY i (l.getD i 0) t) L L'] {N:List HP} [k2:dX (Je pZ l s i) L' N]:Hs G h (pQ pZ l (bT s i t)::N):=Hq hi (hs.cN (iY i (l.getD i 0) t) (Je pZ l s i))
theorem Nu {a:Option Addr} {c:Nat} {l:List Ev} {v:Ev} {a2:Option Addr} {c2:Nat} {k:Value×AH→Prop} {N:List HP} (hb:l.length≤2^30) (hs:Hs G h L) [mm:Has (zU a c) L l L'] [m2:dX (zU a2 c2 [v]) L' N]
  (hk:∀a' c' h',Hs G h' (zU a' c' (l++[v])::N)→k (.slice a' (l++[v]).length c',h')):aZ (iO 7 56 80 h (.slice a l.length c) (.slice a2 1 c2)) k:=by
 have hs:=mm.of hs
 have hs2:Hs G h (zU a c l::zU a2 c2 [v]::N):=hs.perm (m2.perm.cons _)
 exact rX (l:=l) (l2:=[v]) (a:=a) (c:=c) (a2:=a2) (c2:=c2) hs2 (by simp;omega) fun a' c' h hs=>hk a' c' h hs.kI.tail
end Go.Proofs.YtajjljbmfdboaaaGreatDoor
end
section
namespace Go.Proofs.YtajjljbmfdboaaaGreatDoor
open Go Go.Ab Go.Hm Go.At Go.Mc Go.Ct
set_option maxRecDepth 100000
variable {G:Bg} {h:AH} {L L':List HP} {Q:Value→AH→Prop} {Cf:bQ} {m:Nat} {M:cY}
theorem lR {i:Nat} {v c:Int} (hi:(i:Int)<Cf.aF) (ho:(M.aH i).Ok) (hlog:M.log.length≤2^30) (hs:Hs G h L) [mm:Has (bG G Cf m) L M L'] (hk:∀h',Hs G h' (bG G Cf m (M.cC i v c).1::L')→Q (I (M.cC i v c).2) h'):Cl Pr K 161 [pt m 0 0,I i,I v,I c] h Q:=by
 obtain⟨x,hl,hs⟩:=cH (mm.of hs)
 have hic:i<x.lc.length:=by have:=hl.1;omega
 unfold cY.cC at hk
 refine cW (aB (aA (aC (b:=m) (o:=0) hs rfl (Ji hs hic ?_))))
 have hs:=gV (R:=pZ) (l:=x.lc) (s:=M.aH) hic hs
 refine Mu (i:=i) (p:=x.lc.getD i 0) (s:=M.aH i) ho hs fun h hs=>?_
 have hs:=B6 (l:=x.lc) (s:=M.aH) (i:=i) (t:=(aY.cC (M.aH i) i v c).1) hic hs
 refine aG rfl (aG rfl (bK hs fun q h hs=>bA (b:=q) hs rfl rfl rfl rfl fun h hs=>aX (aS (fun h1=>?_) (fun h1=>?_))))
 ·rw[if_pos h1] at hk
  refine hk _ ?_
  have e:bT M.aH i (aY.cC (M.aH i) i v c).1=M.aH:=by
   have:(aY.cC (M.aH i) i v c).1=M.aH i:=by
    unfold aY.cC at h1 ⊢
    cases hn:aY.next? (M.aH i) with
    |none=>rfl
    |some y=>grind
   rw[this]
   funext j
   unfold bT
   split
   ·rename_i e;rw[e]
   ·rfl
  rw[e] at hs
  exact tY hl hs.to
 ·rw[if_neg h1] at hk
  refine bW (aR hs fun rr h hs=>aB (aA (aC (b:=m) (o:=0) hs rfl (aN (b:=q) (o:=0) hs (by decide) (l:=(aY.cC (M.aH i) i v c).2.1.enc) rfl rfl (aK (c:=(aY.cC (M.aH i) i v c).2.1.enc) rfl ?_)))))
  refine iJ (r:=rr) (i:=6) (N:=11) (D:=[]) (W:=7) hs rfl rfl rfl rfl rfl fun a h hs=>?_
  have hs:=uF (enc:=Ev.enc) (x:=(aY.cC (M.aH i) i v c).2.1) hs
  refine Nu (l:=M.log) (v:=(aY.cC (M.aH i) i v c).2.1) hlog hs fun a' c' h hs=>aB (aA (bE (b:=m) (o:=0) hs rfl rfl rfl rfl fun h hs=>cJ cZ (hk _ ?_)))
  have e:dH (eU Cf x M.log.length) (0+13) [.slice a' (M.log++[(aY.cC (M.aH i) i v c).2.1]).length c']=eU Cf {x with al:=a',cl:=c'} (M.log++[(aY.cC (M.aH i) i v c).2.1]).length:=rfl
  rw[e] at hs
  exact tY (M:=(M.vT i (aY.cC (M.aH i) i v c).1).Sc (aY.cC (M.aH i) i v c).2.1) (x:={x with al:=a',cl:=c'}) hl hs.to
end Go.Proofs.YtajjljbmfdboaaaGreatDoor
end
section
namespace Go.Proofs.YtajjljbmfdboaaaGreatDoor
open Go Go.Ab Go.Hm Go.At Go.Mc Go.Ct
set_option maxRecDepth 100000
variable {G:Bg} {h:AH} {L L':List HP} {Q:Value→AH→Prop} {Cf:bQ} {m:Nat} {x:MN} {M:cY}
abbrev wtX (G:Bg) (Cf:bQ) (m:Nat) (x:MN) (M:cY) (p2 p3 p4:Nat) (co:Int) (e:Nat→Value) (d l:Nat) (st:LoopState×Option Code) (b:Bool) (pr:Prop):HP:=
 sp [zD pr,nE Pr 20 (nB 58) 32 e d l st,sp [aE p2 0 [pt m 0 0],aE p3 0 [I co],aE p4 0 [.bool b]],tM G Cf m x M]
theorem Mh {co:Int} (hm:gD Cf M.dQ) (hs:Hs G h L) [mm:Has (tM G Cf m x) L M L'] (hk:∀h',Hs G h' (tM G Cf m x M::L')→Q (.bool (M.waits co)) h'):Cl Pr K 20 [pt m 0 0,I co] h Q:=by
 unfold cY.waits at hk
 refine cW (dJ (mm.of hs) fun p2 h hs=>dJ hs fun p3 h hs=>bK hs fun p4 h hs=>aC (b:=p2) (o:=0) hs rfl (cS (bS ?_)))
 obtain⟨hl,hs⟩:=uC (hs.front (tM G Cf m x M))
 refine bW (aC (b:=p2) (o:=0) hs rfl (aB (aA (aC (b:=m) (o:=0) hs rfl (Av (C:=Cf) (m:=M.dQ) hs fun q qa qc h hs=>?_)))))
 have hs:=Ao (m:=m) (x:=x) M hl hs
 refine mW hs fun d h hs=>?_
 intro e he
 refine qP hs fun l h hs=>vZ rfl ?_
 have hs:Hs G h (H.Kh 3 q qa qc (M.dQ.running.map fun k:Nat=>(k:Int))::wtX G Cf m x M p2 p3 p4 co e d l (.ready,none) false (∀g∈([]:List Int),M.dQ.jQ co g.toNat=false)::mk d ()::L'):=by
  have hs:=(hs.cU (aE p2 0 [pt m 0 0]) (aE p3 0 [I co]) (aE p4 0 [.bool false])).T4
  have hs:=hs.cU (nE Pr 20 (nB 58) 32 e d l (.ready,none)) (sp [aE p2 0 [pt m 0 0],aE p3 0 [I co],aE p4 0 [.bool false]]) (tM G Cf m x M)
  have hs:=Hs.J8 (Hs.Qt (p:=∀g∈([]:List Int),M.dQ.jQ co g.toNat=false) (by simp) hs)
  exact hs.to
 refine(H.C7 (e:=3) (p:=q) (a:=qa) (c:=qc) (xs:=M.dQ.running.map fun k:Nat=>(k:Int)) (by have:=List.length_filter_le (fun g=>(M.dQ.runs g).isSome) (List.range 16);simp[Mon.running] at this ⊢;omega)).fold
  (X:=fun done=>wtX G Cf m x M p2 p3 p4 co e d l (.ready,none) false (∀g∈done,M.dQ.jQ co g.toNat=false)) (Z:=fun _ y=>wtX G Cf m x M p2 p3 p4 co e d l (.done,some .ret) true (y∈(M.dQ.running.map fun k:Nat=>(k:Int))∧M.dQ.jQ co y.toNat=true)) hs ?_ ?_ ?_
 ·intro done y h N hp hs
  obtain⟨hd,hs⟩:=gF hs
  have hs:=hs.Bk
  obtain⟨k,hkr,rfl⟩:∃k∈M.dQ.running,(k:Int)=y:=by
   obtain⟨ys,hys⟩:=hp
   have:y∈M.dQ.running.map fun k:Nat=>(k:Int):=by rw[←hys];simp
   obtain⟨k,h1,h2⟩:=List.mem_map.1 this
   exact⟨k,h1,h2⟩
  obtain⟨r,hr⟩:=Option.isSome_iff_exists.1 (oO.1 hkr).2
  have hrr:M.dQ.run (k:Int)=some r:=by unfold Mon.run;rw[if_pos (by omega)];exact hr
  have hph:M.dQ.phase (k:Int)≠0:=by
   unfold Mon.phase
   rw[hrr]
   have:=(hm.run k r hr).2.2.1
   dsimp only
   omega
  have hs:=(hs.front (sp [aE p2 0 [pt m 0 0],aE p3 0 [I co],aE p4 0 [.bool false]])).Bk
  obtain⟨hl,hs⟩:=uC (hs.front (tM G Cf m x M))
  refine rW (xD hs) he (kA hs fun h hs=>aC (b:=p2) (o:=0) hs rfl (aB (aA (aC (b:=m) (o:=0) hs rfl (aD3 (C:=Cf) (m:=M.dQ) hs fun a h hs ha1 ha2 ha3=>?_)))))
  rw[ha1 hph,hrr,decide_eq_true hph]
  have hs:=Ao (m:=m) (x:=x) M hl hs
  refine aG rfl (aG rfl (bK hs fun p9 h hs=>bA (b:=p9) (vs:=wP r) hs rfl rfl rfl rfl fun h hs=>dY (aA (aC (b:=p9) (o:=0) hs rfl (aC (b:=p3) (o:=0) hs rfl (bC (aS (fun c1=>?_) (fun c1=>?_))))))))
  ·refine bA (b:=p4) hs rfl rfl rfl rfl fun h hs=>jS hs fun h hs=> .inr ⟨rfl,?_⟩
   have hs:=(hs.cU (aE p2 0 [pt m 0 0]) (aE p3 0 [I co]) (aE p4 0 [.bool true])).T4
   have hs:=hs.cU (nE Pr 20 (nB 58) 32 e d l (.done,some .ret)) (sp [aE p2 0 [pt m 0 0],aE p3 0 [I co],aE p4 0 [.bool true]]) (tM G Cf m x M)
   refine(Hs.J8 (Hs.Qt (p:=((k:Int)∈(M.dQ.running.map fun k:Nat=>(k:Int))∧M.dQ.jQ co ((k:Int)).toNat=true)) ⟨List.mem_map.2 ⟨k,hkr,rfl⟩,?_⟩ hs)).to
   unfold Mon.jQ;rw[Int.toNat_natCast,hr];exact decide_eq_true c1
  ·refine jS hs fun h hs=> .inl ⟨rfl,?_⟩
   have hs:=(hs.cU (aE p2 0 [pt m 0 0]) (aE p3 0 [I co]) (aE p4 0 [.bool false])).T4
   have hs:=hs.cU (nE Pr 20 (nB 58) 32 e d l (.ready,none)) (sp [aE p2 0 [pt m 0 0],aE p3 0 [I co],aE p4 0 [.bool false]]) (tM G Cf m x M)
   refine(Hs.J8 (Hs.Qt (p:=∀g∈done++[((k:Nat):Int)],M.dQ.jQ co g.toNat=false) ?_ hs)).to
   intro g hg
   rcases List.mem_append.1 hg with hg|hg
   ·exact hd g hg
   ·rw[List.mem_singleton.1 hg,Int.toNat_natCast];unfold Mon.jQ;rw[hr];exact decide_eq_false c1
 ·intro v h hs
  obtain⟨hd,hs⟩:=gF (hs.front (wtX G Cf m x M p2 p3 p4 co e d l (.ready,none) false (∀g∈M.dQ.running.map (fun k:Nat=>(k:Int)),M.dQ.jQ co g.toNat=false)))
  have hs:=hs.Bk
  have hno:M.dQ.calls co=false:=by
   unfold Mon.calls
   rw[List.any_eq_false]
   intro g hg
   have:=hd g (List.mem_map.2 ⟨g,hg,rfl⟩)
   rw[Int.toNat_natCast] at this
   rw[this];simp
  rw[hno] at hk
  have hs:=(hs.front (sp [aE p2 0 [pt m 0 0],aE p3 0 [I co],aE p4 0 [.bool false]])).Bk
  exact qQ hs fun h hs=>qL (bA (b:=p4) hs rfl rfl rfl rfl fun h hs=>mH hs fun h hs=>jU (aC (b:=p4) (o:=0) hs rfl (hk _ hs.to)))
 ·intro done y v h hp hs
  obtain⟨hd,hs⟩:=gF (hs.front (wtX G Cf m x M p2 p3 p4 co e d l (.done,some .ret) true (y∈(M.dQ.running.map fun k:Nat=>(k:Int))∧M.dQ.jQ co y.toNat=true)))
  have hs:=hs.Bk
  have hyes:M.dQ.calls co=true:=by
   unfold Mon.calls
   rw[List.any_eq_true]
   obtain⟨k,hk1,hk2⟩:=List.mem_map.1 hd.1
   refine⟨k,hk1,?_⟩
   have:=hd.2
   rw[←hk2,Int.toNat_natCast] at this
   exact this
  rw[hyes] at hk
  have hs:=(hs.front (sp [aE p2 0 [pt m 0 0],aE p3 0 [I co],aE p4 0 [.bool true]])).Bk
  exact I9 hs fun h hs=>np (mH hs fun h hs=>jU (aC (b:=p4) (o:=0) hs rfl (hk _ hs.to)))
theorem A3 {co:Int} (hm:gD Cf M.dQ) (hs:Hs G h L) [mm:Has (bG G Cf m) L M L'] (hk:∀h',Hs G h' (bG G Cf m M::L')→Q (.bool (M.waits co)) h'):Cl Pr K 20 [pt m 0 0,I co] h Q:=by
 obtain⟨x,hs⟩:=m5 (mm.of hs)
 exact Mh (x:=x) hm hs fun h hs=>hk _ (pn hs)
end Go.Proofs.YtajjljbmfdboaaaGreatDoor
end
section
namespace Go.Proofs.YtajjljbmfdboaaaGreatDoor
open Go Go.Ab Go.Hm Go.At Go.Mc Go.Ct
theorem dq {l done:List (Int×Int)} {y:Int×Int} {g:Int} (hp:done++[y]<+:l) (hd:∀z∈done,z.1≠g) (hy:y.1=g):mM l g=some y.2:=by
 obtain⟨r,rfl⟩:=hp
 unfold mM
 rw[List.append_assoc,List.find?_append,List.find?_eq_none.2 (by simpa using hd)]
 simp[hy]
theorem T6 {l:List (Int×Int)} {g:Int} (hd:∀z∈l,z.1≠g):mM l g=none:=by
 unfold mM
 rw[List.find?_eq_none.2 (by simpa using hd)]
 rfl
set_option maxRecDepth 100000
variable {G:Bg} {h:AH} {L L':List HP} {Q:Value→AH→Prop} {Cf:bQ} {m:Nat} {M:cY}
abbrev knX (G:Bg) (Cf:bQ) (m:Nat) (M:cY) (p2 p4:Nat) (g v:Int) (e:Nat→Value) (d l:Nat) (st:LoopState×Option Code) (pr:Prop):HP:=
 sp [zD pr,nE Pr 194 (nB 218) 25 e d l st,sp [aE p2 0 [I g],aE p4 0 [I v]],bG G Cf m M]
theorem uV {l:List Nat} {s:Nat→lQ} {i:Nat} {t:lQ} (hi:i<l.length) (hs:Hs G h L) [k:dX (iS (l.getD i 0) Cf t) L L'] {N:List HP} [k2:dX (Je (nL Cf) l s i) L' N]:Hs G h (pQ (nL Cf) l (bT s i t)::N):=Hq hi (hs.cN (iS (l.getD i 0) Cf t) (Je (nL Cf) l s i))
theorem bJ {α:Type} {s:Nat→α} {i:Nat}:bT s i (s i)=s:=by
 funext j
 unfold bT
 split
 ·rename_i e;rw[e]
 ·rfl
theorem a7 {i:Nat} {g:Int} (hi:(i:Int)<Cf.aF) (hb:(M.cR i).known.length≤100) (hs:Hs G h L) [mm:Has (bG G Cf m) L M L'] (hk:∀h',Hs G h' (bG G Cf m M::L')→Q (I (M.known i g)) h'):Cl Pr K 194 [pt m 0 0,I i,I g] h Q:=by
 unfold cY.known at hk
 refine cW (dJ (mm.of hs) fun p2 h hs=>bK hs fun p4 h hs=>bA (b:=p4) hs rfl rfl rfl rfl fun h hs=>?_)
 obtain⟨x,hl,hs⟩:=cH (hs.front (bG G Cf m M))
 have hic:i<x.lq.length:=by have:=hl.2.2;omega
 refine aB (aA (aC (b:=m) (o:=0) hs rfl (Hi hs hic ?_)))
 have hs:=gV (R:=nL Cf) (l:=x.lq) (s:=M.cR) hic hs
 refine dr (C:=Cf) (p:=x.lq.getD i 0) (s:=M.cR i) hb hs fun q h hs=>?_
 have hs:=uV (Cf:=Cf) (l:=x.lq) (s:=M.cR) (i:=i) (t:=M.cR i) hic hs
 rw[bJ] at hs
 have hs:=bB (m:=m) (x:=x) M hl hs
 refine mW hs fun d h hs=>?_
 intro e he
 refine qP hs fun l h hs=>vZ rfl ?_
 have hs:Hs G h (N7 q (M.cR i).known::knX G Cf m M p2 p4 g 0 e d l (.ready,none) (∀z∈([]:List (Int×Int)),z.1≠g)::mk d ()::L'):=by
  have hs:=(hs.cN (aE p2 0 [I g]) (aE p4 0 [I 0])).Ex
  have hs:=hs.cU (nE Pr 194 (nB 218) 25 e d l (.ready,none)) (sp [aE p2 0 [I g],aE p4 0 [I 0]]) (bG G Cf m M)
  have hs:=Hs.J8 (Hs.Qt (p:=∀z∈([]:List (Int×Int)),z.1≠g) (by simp) hs)
  exact hs.to
 refine(uk (q:=q) (l:=(M.cR i).known) (by omega)).fold
  (X:=fun done=>knX G Cf m M p2 p4 g 0 e d l (.ready,none) (∀z∈done,z.1≠g)) (Z:=fun done y=>knX G Cf m M p2 p4 g y.2 e d l (.done,some (.exit 0)) (mM (M.cR i).known g=some y.2)) hs ?_ ?_ ?_
 ·intro done y h N hp hs
  obtain⟨hd,hs⟩:=gF hs
  have hs:=hs.Bk
  have hs:=(hs.front (sp [aE p2 0 [I g],aE p4 0 [I 0]])).D2
  refine rW (xD hs) he (kA hs fun h hs=>aC (b:=p2) (o:=0) hs rfl (bC (aS (fun c1=>?_) (fun c1=>?_))))
  ·refine bA (b:=p4) hs rfl rfl rfl rfl fun h hs=>jS hs fun h hs=> .inr ⟨rfl,?_⟩
   have hs:=(hs.cN (aE p2 0 [I g]) (aE p4 0 [I y.2])).Ex
   have hs:=hs.cU (nE Pr 194 (nB 218) 25 e d l (.done,some (.exit 0))) (sp [aE p2 0 [I g],aE p4 0 [I y.2]]) (bG G Cf m M)
   exact(Hs.J8 (Hs.Qt (p:=mM (M.cR i).known g=some y.2) (dq hp hd c1) hs)).to
  ·refine jS hs fun h hs=> .inl ⟨rfl,?_⟩
   have hs:=(hs.cN (aE p2 0 [I g]) (aE p4 0 [I 0])).Ex
   have hs:=hs.cU (nE Pr 194 (nB 218) 25 e d l (.ready,none)) (sp [aE p2 0 [I g],aE p4 0 [I 0]]) (bG G Cf m M)
   refine(Hs.J8 (Hs.Qt (p:=∀z∈done++[y],z.1≠g) ?_ hs)).to
   intro z hz
   rcases List.mem_append.1 hz with hz|hz
   ·exact hd z hz
   ·rw[List.mem_singleton.1 hz];exact c1
 ·intro v h hs
  obtain⟨hd,hs⟩:=gF (hs.front (knX G Cf m M p2 p4 g 0 e d l (.ready,none) (∀z∈(M.cR i).known,z.1≠g)))
  have hs:=hs.Bk
  rw[T6 hd] at hk
  have hs:=(hs.front (sp [aE p2 0 [I g],aE p4 0 [I 0]])).D2
  exact qQ hs fun h hs=>qL (aC (b:=p4) (o:=0) hs rfl (mH hs fun h hs=>jU (hk _ hs.to)))
 ·intro done y v h hp hs
  obtain⟨hd,hs⟩:=gF (hs.front (knX G Cf m M p2 p4 g y.2 e d l (.done,some (.exit 0)) (mM (M.cR i).known g=some y.2)))
  have hs:=hs.Bk
  rw[hd] at hk
  have hs:=(hs.front (sp [aE p2 0 [I g],aE p4 0 [I y.2]])).D2
  exact I9 hs fun h hs=>O7 rfl (aC (b:=p4) (o:=0) hs rfl (mH hs fun h hs=>jU (hk _ hs.to)))
end Go.Proofs.YtajjljbmfdboaaaGreatDoor
end
section
namespace Go.Proofs.YtajjljbmfdboaaaGreatDoor
open Go Go.Ab Go.Hm Go.At Go.Mc Go.Ct Go.Nt Go.Is
instance:Fx aQ.enc 9:=inferInstance
structure Gb (G:Bg):Prop where
 lim:Ob G 0 fB
 kin:Ob G 2 tZ
 row:Ob G 3 gZ
set_option maxRecDepth 100000
variable {G:Bg} {h:AH} {L L':List HP} {Q:Value→AH→Prop} {Cf:bQ} {m:Nat} {M:cY}
theorem Bx {α:Type} {R:Nat→Nat→α→HP} {l:List Nat} {s:Nat→α} {i q:Nat} {t:α} (hi:i<l.length) (hs:Hs G h L) [k:dX (R i q t) L L'] {N:List HP} [k2:dX (Je R l s i) L' N]:Hs G h (pQ R (l.set i q) (bT s i t)::N):=oa hi (hs.cN (R i q t) (Je R l s i))
theorem Cb {F:gM} {l:List aQ} (h:(gM.send Cf F l).2≠0):(gM.send Cf F l).1=F:=by
 unfold gM.send at h ⊢
 split
 ·rfl
 ·rename_i hc
  rw[if_neg hc] at h
  cases hp:gM.Fq Cf.depth F l with
  |none=>rfl
  |some F'=>rw[hp] at h;exact absurd rfl h
theorem me {i:Nat} {g:Int} (hC:Cf.Ok) (hG:Gb G) (hi:(i:Int)<Cf.aF) (hb:(M.cR i).known.length≤100) (hL:la Cf M.mI) (hs:Hs G h L) [mm:Has (bG G Cf m) L M L'] (hk:∀h',Hs G h' (bG G Cf m (M.walk Cf i g).1::L')→Q (I (M.walk Cf i g).2) h'):Cl Pr K 193 [pt m 0 0,I i,I g] h Q:=by
 unfold cY.walk at hk
 obtain⟨x,hl,hs⟩:=cH (mm.of hs)
 have hic:i<x.lq.length:=by have:=hl.2.2;omega
 refine cW (aB (aA (aC (b:=m) (o:=0) hs rfl (Hi hs hic ?_))))
 have hs:=gV (R:=nL Cf) (l:=x.lq) (s:=M.cR) hic hs
 refine Ag (C:=Cf) (p:=x.lq.getD i 0) (s:=M.cR i) hb hs fun q h hs=>?_
 refine Rw (C:=Cf) (p:=q) (s:=M.cR i) hC hb hs fun h hs=>aG rfl (aG rfl (aX (aS (fun h1=>?_) (fun h1=>?_))))
 ·rw[if_pos h1] at hk
  have hs:=uV (Cf:=Cf) (l:=x.lq) (s:=M.cR) (i:=i) (t:=M.cR i) hic hs
  rw[bJ] at hs
  exact hk _ (bB (m:=m) (x:=x) M hl hs).to
 rw[if_neg h1] at hk
 refine bW (aB (aA (aC (b:=m) (o:=0) hs rfl (aK (c:=(eT 6 i ((M.cR i).begin Cf g).2.1).enc) rfl (aK (c:=(eT 6 i ((M.cR i).begin Cf g).2.1).enc) rfl (dP (W:=9) (n:=1) (c:=1) hs rfl rfl rfl fun a h hs=>?_))))))
 have hs:=uF (enc:=aQ.enc) (x:=eT 6 i ((M.cR i).begin Cf g).2.1) hs
 refine Cd (C:=Cf) (f:=x.fb) (F:=M.mI) (l:=[eT 6 i ((M.cR i).begin Cf g).2.1]) (a:=some a) (c:=1) hC (hL.Ws hC) (by simp) hG.kin hG.lim hs fun h hs=>aX (aS (fun h2=>?_) (fun h2=>?_))
 ·dsimp only at hk
  rw[if_pos h2] at hk
  rw[Cb h2] at hs
  have hs:=uV (Cf:=Cf) (l:=x.lq) (s:=M.cR) (i:=i) (t:=M.cR i) hic hs
  rw[bJ] at hs
  exact hk _ (bB (m:=m) (x:=x) M hl hs).to
 ·dsimp only at hk
  rw[if_neg h2] at hk
  refine bW (aB (aA (aC (b:=m) (o:=0) hs rfl (Oc hs hic fun h hs=>hk _ ?_))))
  have hs:=Bx (R:=nL Cf) (l:=x.lq) (s:=M.cR) (i:=i) (q:=q) (t:=((M.cR i).begin Cf g).1) hic hs
  have e:eU Cf x M.log.length=eU Cf {x with lq:=x.lq.set i q} M.log.length:=by unfold eU;rw[List.length_set]
  rw[e] at hs
  exact(bB (m:=m) (x:={x with lq:=x.lq.set i q}) ((M.dH (gM.send Cf M.mI [eT 6 i ((M.cR i).begin Cf g).2.1]).1).Bh i ((M.cR i).begin Cf g).1) ⟨hl.1,hl.2.1,by rw[List.length_set];exact hl.2.2⟩ hs).to
end Go.Proofs.YtajjljbmfdboaaaGreatDoor
end
end
