/- A part of the proof. -/
import Derived.Test.YtajjljbmfdboaaaGreatDoorF12
import Derived.Test.YtajjljbmfdboaaaGreatDoorF10
import Derived.Test.YtajjljbmfdboaaaGreatDoorF14
import Derived.Test.YtajjljbmfdboaaaGreatDoorF11
section
open Go Go.Ab
attribute [local irreducible] bA Br pN uC uU Dp nH xW nQ Tx gZ mQ rE sP qX lA B8 uK Y9 dw Tv Sl dj Ty Ry U9 Yi lJ pF vW jB copyV jC wY ft Zd Iw lI P0 Wx en qE uG Be Dk Cl zV Xm uE sS lC gK cS cC
section
namespace Go.Proofs.YtajjljbmfdboaaaGreatDoor
open Go Go.Ab Go.Hm Go.At Go.Mc
instance:Fx cY 2:=⟨fun _=>rfl,fun _=>rfl⟩
def qf (p:Int×Int→Bool):List (Int×Int)→Nat→Int
 |[],_=> -1
 |x::l,i=>if p x then(i:Int) else qf p l (i+1)
theorem Iu {p:Int×Int→Bool}:∀{l:List (Int×Int)} {i:Nat},(qf p l i= -1∧(∀x∈l,p x=false))∨∃j x,qf p l i=((i+j:Nat):Int)∧l[j]?=some x∧p x=true∧∀y∈l.take j,p y=false
 |[],i=> .inl ⟨rfl,fun _ h=>by cases h⟩
 |x::l,i=>by
  unfold qf
  split
  ·rename_i hp
   exact .inr ⟨0,x,by simp,rfl,hp,fun _ h=>by cases h⟩
  ·rename_i hp
   have hp:p x=false:=by simpa using hp
   rcases Iu (p:=p) (l:=l) (i:=i+1) with⟨h1,h2⟩|⟨j,y,h1,h2,h3,h4⟩
   ·refine .inl ⟨h1,fun z hz=>?_⟩
    rcases List.mem_cons.1 hz with rfl|hz
    ·exact hp
    ·exact h2 z hz
   ·refine .inr ⟨j+1,y,by rw[h1];congr 1;omega,by simpa using h2,h3,fun z hz=>?_⟩
    rw[List.take_succ_cons] at hz
    rcases List.mem_cons.1 hz with rfl|hz
    ·exact hp
    ·exact h4 z hz
def isG (g:Int) (x:Int×Int):Bool:=decide (x.1=g)
theorem zL {g:Int} {l:List (Int×Int)}:(qf (isG g) l 0= -1∧nP l g=none)∨∃(j:Nat) (x:Int×Int),qf (isG g) l 0=(j:Int)∧l[j]?=some x∧nP l g=some x.2:=by
 rcases Iu (p:=isG g) (l:=l) (i:=0) with⟨h1,h2⟩|⟨j,x,h1,h2,h3,h4⟩
 ·refine .inl ⟨h1,?_⟩
  unfold nP
  rw[List.find?_eq_none.2 fun x hx=>by have:=h2 x hx;unfold isG at this;simpa using this]
  rfl
 ·refine .inr ⟨j,x,by rw[h1,Nat.zero_add],h2,?_⟩
  unfold nP
  have:l.find? (fun x=>decide (x.1=g))=some x:=by
   rw[List.find?_eq_some_iff_append]
   refine⟨h3,l.take j,l.drop (j+1),?_,fun y hy=>by have:=h4 y hy;unfold isG at this;simpa using this⟩
   obtain⟨hj,e⟩:=List.getElem?_eq_some_iff.1 h2
   rw[←e,←List.drop_eq_getElem_cons hj,List.take_append_drop]
  rw[this];rfl
set_option maxRecDepth 100000
variable {G:Bg} {h:AH} {L L':List HP} {Q:Value→AH→Prop} {C:bL}
def wV (C:bL) (s:lU) (a:Option Addr) (c:Nat):List Value:=[.bool s.qD,I s.cE,I s.at',.bool s.sR,I C.entries,I C.bB,.slice a s.known.length c]
def iT (p:Nat) (C:bL) (s:lU):HP:=rY fun x:Option Addr×Nat=>sp [aE p 0 (wV C s x.1 x.2),ls cY 2 261 x.1 x.2 s.known]
theorem jL {p:Nat} {s:lU} (hs:Hs G h (iT p C s::L)):∃a c,Hs G h (aE p 0 (wV C s a c)::ls cY 2 261 a c s.known::L):=by
 obtain⟨⟨a,c⟩,hs⟩:=hs.zE
 exact⟨a,c,hs.xA⟩
theorem dT (p:Nat) (C:bL) (s:lU) {a:Option Addr} {c:Nat} {cs:List Value} {l:List (Int×Int)} {L1 L2:List HP} (hs:Hs G h L) [m:Has (aE p 0) L cs L1] [m2:Has (ls cY 2 261 a c) L1 l L2] (h1:cs=wV C s a c) (h2:l=s.known):Hs G h (iT p C s::L2):=by
 subst h1;subst h2
 exact Hs.uH (A:=fun x:Option Addr×Nat=>sp [aE p 0 (wV C s x.1 x.2),ls cY 2 261 x.1 x.2 s.known]) (a,c) (Hs.pack (A:=[_,_]) (hs.perm (m.perm.trans (m2.perm.cons _))))
theorem cx (hC:C.Ok) (hs:Hs G h L) (hk:∀p h',Hs G h' (iT p C Fw::L)→Q (.tuple ⟨[pt p 0 0,I 0]⟩) h'):Cl Pr K 84 [I C.entries,I C.bB] h Q:=by
 have hC':=hC
 unfold bL.Ok at hC'
 refine cW (aN (aK (by omega) (iS (aK (by omega) (aN (aK (by omega) (iS (aK (by omega) ?_))))))))
 refine aH (c:=wV C Fw none 0) rfl (dI hs fun p h hs=>hk _ _ ?_)
 exact dT p C Fw (a:=none) (c:=0) ((pV (enc:=cY) (W:=2) (e:=261) hs)) rfl rfl
theorem Bu {a:Option Addr} {c:Nat} {l:List (Int×Int)} (hb:l.length≤100) (hs:Hs G h L) [m:Has (ls cY 2 261 a c) L l L']
  (hk:∀a' c' h',Hs G h' (ls cY 2 261 a' c' l::ls cY 2 261 a c l::L')→Q (.slice a' l.length c') h'):Cl Pr K 131 [.slice a l.length c] h Q:=
 cW (zM (e:=261) (show Hs G h (dB 2 261 a c (l.length,eL cY l)::L') from m.of hs) (by omega) hk)
theorem A1 {p:Nat} {s:lU} (hb:s.known.length≤100) (hs:Hs G h L) [m:Has (iT p C) L s L'] (hk:∀q h',Hs G h' (iT q C s::iT p C s::L')→Q (pt q 0 0) h'):Cl Pr K 81 [pt p 0 0] h Q:=by
 obtain⟨a,c,hs⟩:=jL (m.of hs)
 refine cW (cN (bV (bW (aB (aQ (b:=p) (o:=0) hs (by decide) (l:=wV C s a c) rfl rfl (bN hs fun q h hs=>aZ hs rfl rfl rfl rfl fun h hs=>?_))))))
 refine aB (aA (aC (b:=p) (o:=0) hs rfl (Bu (a:=a) (c:=c) (l:=s.known) hb hs fun a' c' h hs=>aA (bI (b:=q) (o:=0) hs rfl rfl rfl rfl fun h hs=>hk _ _ ?_))))
 have hs:=dT p C s (a:=a) (c:=c) (hs.cA (aE p 0 (wV C s a c)) (ls cY 2 261 a c s.known)) rfl rfl
 exact(dT q C s (a:=a') (c:=c') hs rfl rfl)
def vh (G:Bg) (f:Value) (A:HP) (p:Int×Int→Bool):Prop:=∀(x:Int×Int) (h:AH) (L:List HP) (Q:Value→AH→Prop),Hs G h (A::L)→(∀h',Hs G h' (A::L)→Q (.bool (p x)) h')→zV Pr K f [.agg ⟨cY x⟩] h Q
theorem Qe {f:Value} {A:HP} {p:Int×Int→Bool} (hf:vh G f A p) {a:Option Addr} {c:Nat} {l:List (Int×Int)} (hb:l.length≤1000) (hs:Hs G h (A::ls cY 2 261 a c l::L))
  (hk:∀h',Hs G h' (A::ls cY 2 261 a c l::L)→Q (I (qf p l 0)) h'):Cl Pr K 287 [.slice a l.length c,f] h Q:=by
 refine cW (bZ ?_)
 have loop:∀(k i:Nat) (h:AH),i+k=l.length→qf p l 0=qf p (l.drop i) i→Hs G h (A::ls cY 2 261 a c l::L)→Dd 287 1 [] Q [(.slice a l.length c),f,(I l.length),(I i)] h:=by
  intro k
  induction k with
  |zero=>
   intro i h hi he hs
   rw[List.drop_of_length_le (by omega)] at he
   refine bW (aN (aK (by omega) ?_))
   have:=hk _ hs
   rw[he] at this
   exact this
  |succ k ih=>
   intro i h hi he hs
   obtain⟨x,hx,hd⟩:=lF (l:=l) (i:=i) (by omega)
   rw[hd,qf] at he
   refine bW (aN (bP (by omega) (bW (tM (l:=l) (a:=a) (c:=c) (enc:=cY) (e:=261) hs (by decide) (by omega) (by rw[Int.toNat_natCast];exact hx) (hf x h _ _ hs fun h hs=>cU (fun h1=>?_) (fun h1=>?_))))))
   ·have:=hk _ hs
    rw[he,if_pos h1] at this
    exact this
   ·rw[if_neg (by rw[h1];simp)] at he
    exact bW (bE (by omega) (ih (i+1) h (by omega) he hs))
 exact loop l.length 0 h (by omega) (by rw[List.drop_zero]) hs
theorem zf {p:Nat} {g:Int}:vh G (.func (.func 288) #[] #[pt p 0 0]) (aE p 0 [I g]) (isG g):=by
 intro x h L Q hs hk
 refine nA rfl (cW (dI hs fun q h hs=>aA (aC (b:=q) (o:=0) hs rfl (aC (b:=p) (o:=0) hs rfl (bH (hk _ hs.tail))))))
theorem J2 {p:Nat} {s:lU} {g:Int} (hb:s.known.length≤100) (hs:Hs G h L) [m:Has (iT p C) L s L'] (hk:∀h',Hs G h' (iT p C s::L')→Q (I (qf (isG g) s.known 0)) h'):Cl Pr K 242 [pt p 0 0,I g] h Q:=by
 obtain⟨a,c,hs⟩:=jL (m.of hs)
 refine cW (dI hs fun q h hs=>aB (aA (aC (b:=p) (o:=0) hs rfl ?_)))
 have hs:Hs G h (aE q 0 [I g]::ls cY 2 261 a c s.known::aE p 0 (wV C s a c)::L'):=hs.to
 refine Qe zf (by omega) hs fun h hs=>hk _ ?_
 exact(dT p C s (a:=a) (c:=c) hs rfl rfl).to
theorem ep {p:Nat} {s:lU} {w g:Int} (hb:s.known.length≤100) (hs:Hs G h L) [m:Has (iT p C) L s L'] (hk:∀h',Hs G h' (iT p C s::L')→Q (.tuple ⟨[I (s.ask C w g).1,I (s.ask C w g).2]⟩) h'):Cl Pr K 192 [pt p 0 0,I w,I g] h Q:=by
 obtain⟨a,c,hs⟩:=jL (m.of hs)
 unfold lU.ask at hk
 have hsC:∀{h:AH},Hs G h (aE p 0 (wV C s a c)::ls cY 2 261 a c s.known::L')→Hs G h (iT p C s::L'):=fun hs=>dT p C s (a:=a) (c:=c) hs rfl rfl
 refine cW (cN (bV (bW (aN (aR (fun h1=>?_) (fun h1=>aB (aA (aC (b:=p) (o:=0) hs rfl (dR (aR (fun h2=>?_) (fun h2=>aN (aR (fun h3=>?_) (fun h3=>iS (aR (fun h4=>?_) (fun h4=>?_)))))))))))))))
 ·rw[if_neg (by omega)] at hk;exact hk _ (hsC hs)
 ·rw[if_neg (by omega)] at hk;exact hk _ (hsC hs)
 ·rw[if_neg (by omega)] at hk;exact hk _ (hsC hs)
 ·rw[if_neg (by omega)] at hk;exact hk _ (hsC hs)
 ·rw[if_pos (by omega)] at hk
  refine bW (J2 (C:=C) hb (hsC hs) fun h hs=>aN (aR (fun h5=>?_) (fun h5=>?_)))
  ·rcases zL (g:=g) (l:=s.known) with⟨e1,e2⟩|⟨j,x,e1,e2,e3⟩
   ·rw[e2] at hk;exact hk _ hs
   ·omega
  ·rcases zL (g:=g) (l:=s.known) with⟨e1,e2⟩|⟨j,x,e1,e2,e3⟩
   ·omega
   ·rw[e3] at hk
    rw[e1]
    obtain⟨a,c,hs⟩:=jL hs
    refine bW (aB (aA (aC (b:=p) (o:=0) hs rfl (nw (l:=s.known) (a:=a) (c:=c) (enc:=cY) (e:=261) hs (by omega) (by rw[Int.toNat_natCast];exact e2) rfl (N0 (cU (fun h6=>?_) (fun h6=>?_)))))))
    ·simp only[h6,if_true] at hk
     exact hk _ (dT p C s (a:=a) (c:=c) hs rfl rfl)
    ·simp only[h6] at hk
     exact hk _ (dT p C s (a:=a) (c:=c) hs rfl rfl)
theorem Re {p:Nat} {s:lU} {g:Int} (hC:C.Ok) (hb:s.known.length≤100) (hs:Hs G h L) [m:Has (iT p C) L s L'] (hk:∀h',Hs G h' (iT p C (s.begin C g).1::L')→Q (.tuple ⟨[I (s.begin C g).2.1,I (s.begin C g).2.2]⟩) h'):Cl Pr K 244 [pt p 0 0,I g] h Q:=by
 have hg:=hC.2.1.2
 obtain⟨a,c,hs⟩:=jL (m.of hs)
 unfold lU.begin at hk
 have hsC:∀{h:AH},Hs G h (aE p 0 (wV C s a c)::ls cY 2 261 a c s.known::L')→Hs G h (iT p C s::L'):=fun hs=>dT p C s (a:=a) (c:=c) hs rfl rfl
 refine cW (cN (bV (bW (aN (aR (fun h1=>?_) (fun h1=>aB (aA (aC (b:=p) (o:=0) hs rfl (dR (aR (fun h2=>?_) (fun h2=>?_)))))))))))
 ·rw[if_pos (by omega)] at hk;exact hk _ (hsC hs)
 ·rw[if_pos (by omega)] at hk;exact hk _ (hsC hs)
 rw[if_neg (by omega)] at hk
 refine bW (J2 (C:=C) hb (hsC hs) fun h hs=>dR (aR (fun h3=>?_) (fun h3=>?_)))
 ·rcases zL (g:=g) (l:=s.known) with⟨e1,e2⟩|⟨j,x,e1,e2,e3⟩
  ·omega
  ·rw[e3] at hk;exact hk _ hs
 ·rcases zL (g:=g) (l:=s.known) with⟨e1,e2⟩|⟨j,x,e1,e2,e3⟩
  ·rw[e2] at hk
   simp only[Option.isSome_none,Bool.false_eq_true,if_false] at hk
   obtain⟨a,c,hs⟩:=jL hs
   refine bW (aB (aA (aA (aC (b:=p) (o:=0) hs rfl (cU (fun h4=>?_) (fun h4=>?_))))))
   ·simp only[h4,if_true] at hk
    exact hk _ (dT p C s (a:=a) (c:=c) hs rfl rfl)
   ·simp only[h4,Bool.false_eq_true,if_false] at hk
    refine bW (uB (by omega) (aG rfl (aG rfl (aY (aK (by omega) (bW (aH (c:=[.bool true,I g,I (g/4),.bool false]) rfl (aB (aA (bI (b:=p) (o:=0) hs rfl rfl rfl rfl fun h hs=>hk _ ?_))))))))))
    exact dT p C (s.start g) (a:=a) (c:=c) hs rfl rfl
  ·omega
end Go.Proofs.YtajjljbmfdboaaaGreatDoor
end
section
namespace Go.Proofs.YtajjljbmfdboaaaGreatDoor
open Go Go.Ab Go.Hm Go.At Go.Mc
theorem aB8 (m:Nat):(eB [I 0,I 0] m).length=m*2∧(eB [I 0,I 0] m).all eF=true:=by
 have:eB [I 0,I 0] m=eL cY (List.replicate m (0,0)):=by
  induction m with
  |zero=>rfl
  |succ m ih=>rw[List.replicate_succ,nB,←ih];rfl
 rw[this]
 exact⟨by rw[Ba,List.length_replicate],Hc⟩
set_option maxRecDepth 100000
variable {G:Bg} {h:AH} {L L':List HP} {Q:Value→AH→Prop} {C:bL}
theorem W2 {a:Option Addr} {c:Nat} {l:List (Int×Int)} (hl:0<l.length) (hs:Hs G h L) [m:Has (ls cY 2 261 a c) L l L']
  (hk:∀h',Hs G h' (ls cY 2 261 a c (l.drop 1)::L')→Q (.slice a (l.drop 1).length c) h'):Cl Pr K 304 [.slice a l.length c,I 0,I 1] h Q:=by
 have hs:Hs G h (dB 2 261 a c (l.length,eL cY l)::L'):=m.of hs
 have hcap:l.length≤c:=by
  obtain⟨r,r2,⟨_,_,hr⟩,_⟩:=hs.fst
  rcases hr with⟨hz,_⟩|⟨hz,_⟩|⟨hcap,_⟩
  ·simp only at hz;omega
  ·simp only at hz;omega
  ·exact hcap
 obtain⟨b,o,ha,_⟩:=hs.mU hl
 refine cW (bZ ?_)
 refine Vi (v:= .slice (some ⟨b,o+0*2,none⟩) (0+1 - 0) (l.length - 0)) ?_ ?_
 ·subst ha
  have b1:jZ (some (I l.length)) c c=some l.length:=by simp only[jZ];rw[if_pos (by omega)];simp
  have b2:jZ (some (I 1)) l.length l.length=some 1:=by simp only[jZ];rw[if_pos (by omega)];rfl
  have b3:jZ (some (I 0)) 0 1=some 0:=by simp only[jZ];rw[if_pos (by omega)];rfl
  have hne:¬l.length=0:=by omega
  simp only[wY,b1,b2,b3,Option.isNone_some,Bool.false_and,Option.isSome_none,Bool.false_eq_true,if_false,hne,cX]
  rw[if_pos (by omega)]
 refine bH (aK (by omega) (bW (bZ (aU hs ?_))))
 intro r h hs
 refine y5 (i:=0) (by decide) rfl rfl hl hs ?_
 intro h hs
 have e:(eL cY l).take (0*2)++(eL cY l).drop ((0+1)*2)=eL cY (l.drop 1):=by rw[Og];simp
 rw[e] at hs
 have:=hk h
 rw[List.length_drop] at this
 refine this ?_
 unfold ls
 rw[List.length_drop]
 exact hs.to
theorem nf {p:Nat} {s:lU} {x:Int×Int} (hC:C.Ok) (hb:s.known.length≤100) (hs:Hs G h L) [m:Has (iT p C) L s L'] (hk:∀h',Hs G h' (iT p C (s.H6 C x)::L')→Q (.tuple ⟨[]⟩) h'):Cl Pr K 259 [pt p 0 0,.agg ⟨cY x⟩] h Q:=by
 have hg:1≤C.entries∧C.entries≤8:=hC.2.2.2.2.2.1
 obtain⟨a,c,hs⟩:=jL (m.of hs)
 unfold lU.H6 at hk
 refine cW (dI hs fun q h hs=>aU hs fun r1 h hs=>?_)
 refine aB (aA (aC (b:=p) (o:=0) hs rfl (bZ (aB (aA (aC (b:=p) (o:=0) hs rfl (dR (aR (fun h1=>?_) (fun h1=>?_)))))))))
 ·rw[if_pos h1] at hk
  refine bW (aB (aA (aC (b:=p) (o:=0) hs rfl (W2 (a:=a) (c:=c) (l:=s.known) (by omega) hs fun h hs=>?_))))
  refine aB (aA (bI (b:=p) (o:=0) hs rfl rfl rfl rfl fun h hs=>aU hs fun r2 h hs=>aB (aA (aC (b:=p) (o:=0) hs rfl (aQ (b:=q) (o:=0) hs (by decide) (l:=cY x) rfl rfl (aH (c:=cY x) rfl (iW (i:=6) (N:=11) (D:=[]) hs rfl rfl rfl rfl rfl fun a2 h hs=>?_)))))))
  refine kB (enc:=cY) (W:=2) (e:=261) (a:=a) (c:=c) (l:=s.known.drop 1) (a2:=some a2) (c2:=1) (l2:=[x]) (show Hs G h (ls cY 2 261 (some a2) 1 [x]::_) from hs) (by simp;omega) fun a' c' h hs=>?_
  refine aB (aA (bI (b:=p) (o:=0) hs rfl rfl rfl rfl fun h hs=>cQ dA (hk _ ?_)))
  exact(dT p C {s with known:=s.known.drop 1++[x]} (a:=a') (c:=c') hs rfl rfl).to
 ·rw[if_neg h1] at hk
  refine aU hs fun r2 h hs=>aB (aA (aC (b:=p) (o:=0) hs rfl (aQ (b:=q) (o:=0) hs (by decide) (l:=cY x) rfl rfl (aH (c:=cY x) rfl (iW (r:=r2) (i:=6) (N:=11) (D:=[]) hs rfl rfl rfl rfl rfl fun a2 h hs=>?_)))))
  refine kB (enc:=cY) (W:=2) (e:=261) (a:=a) (c:=c) (l:=s.known) (a2:=some a2) (c2:=1) (l2:=[x]) (show Hs G h (ls cY 2 261 (some a2) 1 [x]::_) from hs) (by simp;omega) fun a' c' h hs=>?_
  refine aB (aA (bI (b:=p) (o:=0) hs rfl rfl rfl rfl fun h hs=>cQ dA (hk _ ?_)))
  exact(dT p C {s with known:=s.known++[x]} (a:=a') (c:=c') hs rfl rfl).to
theorem dz {p:Nat} {s:lU} {at' w:Int} (hC:C.Ok) (hb:s.known.length≤100) (hgr:0≤s.cE∧s.cE<C.bB) (hw:0≤w∧w≤1000000) (hs:Hs G h L) [m:Has (iT p C) L s L']
  (hk:∀h',Hs G h' (iT p C (s.walked C at' w).1::L')→Q (.tuple ⟨[I (s.walked C at' w).2.1,.bool (s.walked C at' w).2.2.1,I (s.walked C at' w).2.2.2]⟩) h'):Cl Pr K 206 [pt p 0 0,I at',I w] h Q:=by
 have hg:=hC.2.1
 obtain⟨a,c,hs⟩:=jL (m.of hs)
 unfold lU.walked at hk
 have hsC:∀{h:AH},Hs G h (aE p 0 (wV C s a c)::ls cY 2 261 a c s.known::L')→Hs G h (iT p C s::L'):=fun hs=>dT p C s (a:=a) (c:=c) hs rfl rfl
 refine cW (cN (bV (bW (aB (aA (aA (aC (b:=p) (o:=0) hs rfl (bS (dQ (cU (fun h1=>?_) (fun h1=>?_)))))))))))
 rotate_left
 ·rw[if_pos h1] at hk;exact hk _ (hsC hs)
 rw[if_neg (by rw[h1];simp)] at hk
 refine bW (aB (aA (aA (aC (b:=p) (o:=0) hs rfl (aY (aR (fun h2=>?_) (fun h2=>?_)))))))
 ·rw[if_pos h2] at hk;exact hk _ (hsC hs)
 rw[if_neg h2] at hk
 refine bW (aB (aA (aA (aC (b:=p) (o:=0) hs rfl (uB (by omega) (aG rfl (aG rfl (aY (aK (by omega) (bW (aB (aA (aA (aC (b:=p) (o:=0) hs rfl (cU (fun h3=>?_) (fun h3=>?_))))))))))))))))
 ·rw[if_pos h3] at hk
  refine bW (aB (aA (aA (bI (b:=p) (o:=0) hs rfl rfl rfl rfl fun h hs=>aB (aA (aA (bI (b:=p) (o:=0) hs rfl rfl rfl rfl fun h hs=>hk _ ?_)))))))
  exact dT p C s.fresh (a:=a) (c:=c) hs rfl rfl
 rw[if_neg (by rw[h3];simp)] at hk
 refine bW (aU hs fun r1 h hs=>aB (aA (aC (b:=p) (o:=0) hs rfl (aB (aA (aA (aC (b:=p) (o:=0) hs rfl (oa (n:=C.bB) (g:=s.cE) ⟨hg,hgr⟩ hw hs fun h hs=>?_))))))))
 generalize Jv C.bB s.cE at' w=r at hk
 obtain⟨nx,x,ov,e⟩:=r
 simp only at hk ⊢
 refine aG rfl (aG rfl (aG rfl (aG rfl (kC (i:=17) (n:=22) (D:=[]) hs rfl rfl fun p15 h hs=>aZ (b:=p15) hs rfl rfl rfl rfl fun h hs=>cQ (aG rfl aD0) (cQ (aG rfl gC) (aY (aR (fun h4=>?_) (fun h4=>?_))))))))
 ·rw[if_pos h4] at hk;exact hk _ (hsC hs.to)
 rw[if_neg h4] at hk
 have fin10:∀{h:AH} {M:List HP} (v:Int) (s':lU),[Sub M L']→wV C s' a c=dL (wV C s a c) 2 [I v]→s'.known=s.known→Hs G h (aE p 0 (wV C s a c)::ls cY 2 261 a c s.known::M)→(∀h',Hs G h' (iT p C s'::L')→Q (.tuple ⟨[I v,.bool false,I 0]⟩) h')→Dd 206 10 [] Q [(pt p 0 0),(I v)] h:=by
  intro h M v s' _ he hk' hs hq
  refine bW (aB (aA (aA (bI (b:=p) (o:=0) hs rfl rfl rfl rfl fun h hs=>hq _ ?_))))
  have:=dT p C s' (a:=a) (c:=c) hs he.symm hk'.symm
  exact this.to
 have fin11:∀{h:AH},Hs G h (aE p15 0 x.enc::aE p 0 (wV C s a c)::ls cY 2 261 a c s.known::L')→(∀h',Hs G h' (iT p C (s.H6 C (s.cE,x.owner)).done::L')→Q (.tuple ⟨[I 0,.bool true,I 0]⟩) h')→Dd 206 11 [] Q [(pt p 0 0),(pt p15 0 0)] h:=by
  intro h hs hq
  refine bW (aU hs fun r2 h hs=>aB (aA (aA (aC (b:=p) (o:=0) hs rfl (aA (aC (b:=p15) (o:=0) hs rfl (aH (c:=cY (s.cE,x.owner)) rfl ?_)))))))
  have hs:=dT p C s (a:=a) (c:=c) hs rfl rfl
  refine nf hC hb hs fun h hs=>?_
  obtain⟨a3,c3,hs⟩:=jL hs
  refine aH (c:=[.bool false,I 0,I 0,.bool false]) rfl (aB (aA (bI (b:=p) (o:=0) hs rfl rfl rfl rfl fun h hs=>hq _ ?_)))
  exact(dT p C (s.H6 C (s.cE,x.owner)).done (a:=a3) (c:=c3) hs rfl rfl).to
 have hs:Hs G h (aE p15 0 x.enc::aE p 0 (wV C s a c)::ls cY 2 261 a c s.known::L'):=hs.to
 refine bW (cU (fun h5=>?_) (fun h5=>?_))
 ·subst h5
  refine aA (aC (b:=p15) (o:=0) hs rfl (cU (fun h6=>?_) (fun h6=>?_)))
  ·rw[if_pos ⟨rfl,h6⟩] at hk
   exact bW (bS (eQ (fin10 (M:=aE p15 0 x.enc::L') (s.cE/4) (s.goto (s.cE/4)) rfl rfl hs.to hk)))
  ·rw[if_neg (by rw[h6];simp),if_neg (by simp)] at hk
   exact bW (bS (bV (fin11 hs hk)))
 ·subst h5
  rw[if_neg (by simp),if_pos rfl] at hk
  exact bS (eQ (fin10 (M:=aE p15 0 x.enc::L') nx (s.goto nx) rfl rfl hs.to hk))
def oK (g:Int) (x:Int×Int):Bool:=decide (g= -1∨x.1=g)
theorem Zx {p q:Nat} {g:Int}:vh G (.func (.func 262) #[] #[pt p 0 0]) (sp [aE p 0 [.func (.func 260) #[] #[pt q 0 0]],aE q 0 [I g]]) (oK g):=by
 intro x h L Q hs hk
 have hs:=hs.xA
 have hkT:∀{h:AH} {M:List HP} {b:Bool},[Sub M L]→b=oK g x→Hs G h (aE p 0 [.func (.func 260) #[] #[pt q 0 0]]::aE q 0 [I g]::M)→Q (.bool b) h:=by
  intro h M b _ hb hs
  show Q _ _
  rw[hb]
  exact hk _ (Hs.zB hs.to)
 refine nA rfl (cW (dI hs fun r h hs=>aC (b:=p) (o:=0) hs rfl (aA (aC (b:=r) (o:=0) hs rfl ?_))))
 refine nA rfl (cW (aC (b:=q) (o:=0) hs rfl (bH (aR (fun h1=>?_) (fun h1=>aC (b:=q) (o:=0) hs rfl (bH ?_))))))
 ·exact hkT (M:=aE r 0 (cY x)::L) (by unfold oK;rw[decide_eq_true (.inl h1)]) hs.to
 ·exact hkT (M:=aE r 0 (cY x)::L) (by unfold oK;exact decide_eq_decide.2 (by omega)) hs.to
theorem Wj {f:Value} {A:HP} {p:Int×Int→Bool} (hf:vh G f A p) {a:Option Addr} {c:Nat} {l:List (Int×Int)} (hb:l.length≤1000) (hs:Hs G h (A::ls cY 2 261 a c l::L))
  (hk:∀h',Hs G h' (A::ls cY 2 261 a c (l.filter fun x=> !p x)::L)→Q (.slice a (l.filter fun x=> !p x).length c) h'):Cl Pr K 261 [.slice a l.length c,f] h Q:=by
 refine cW (Qe hf hb hs fun h hs=>?_)
 rcases Iu (p:=p) (l:=l) (i:=0) with⟨e1,e2⟩|⟨j,x,e1,e2,e3,e4⟩
 ·rw[e1]
  have ef:l.filter (fun x=> !p x)=l:=List.filter_eq_self.2 fun x hx=>by rw[e2 x hx];rfl
  rw[ef] at hk
  exact bH (bP (by omega) (hk _ hs))
 rw[e1]
 have hjl:=(List.getElem?_eq_some_iff.1 e2).1
 refine bH (aK (by omega) (bW (bE (by omega) ?_)))
 have loop:∀(k i:Nat) (m:List (Int×Int)) (h:AH),i+k=l.length→m.length<i→m=(l.take i).filter (fun x=> !p x)→∀t:List (Int×Int),(m++t).length=i→Hs G h (A::ls cY 2 261 a c (m++t++l.drop i)::L)→
   Dd 261 2 [] Q [(.slice a l.length c),f,(I m.length),(I i)] h:=by
  intro k
  induction k with
  |zero=>
   intro i m h hi hm he t ht hs
   have hil:i=l.length:=by omega
   refine bW (bZ (aN (aK (by omega) (bW ?_))))
   rw[hil,List.take_length] at he
   rw[hil,List.drop_length,List.append_nil] at hs
   have hs:Hs G h (dB 2 261 a c ((m++t).length,eL cY (m++t))::A::L):=hs.kA
   have hll:(m++t).length=l.length:=by omega
   rw[←hll]
   refine aEb (n:=(m++t).length) (i:=m.length) (e:=261) (cs:=eL cY (m++t)) (by decide) aB8 (by omega) hs fun h hs=>?_
   have:=hk h
   rw[←he] at this
   refine this ?_
   rw[Yq,List.take_left] at hs
   exact hs.kA
  |succ k ih=>
   intro i m h hi hm he t ht hs
   obtain⟨y,hy,hd⟩:=lF (l:=l) (i:=i) (by omega)
   have hlen:(m++t++l.drop i).length=l.length:=by rw[List.length_append,ht,List.length_drop];omega
   have hyi:(m++t++l.drop i)[i]?=some y:=by rw[List.getElem?_append_right (by omega),ht,Nat.sub_self,hd];rfl
   have htk:l.take (i+1)=l.take i++[y]:=by rw[List.take_add_one,hy];rfl
   refine bW (bZ (aN (bP (by omega) (bW ?_))))
   rw[←hlen]
   refine tM (l:=m++t++l.drop i) (a:=a) (c:=c) (enc:=cY) (e:=261) hs (by decide) (by omega) (by rw[Int.toNat_natCast];exact hyi) (bN hs fun p3 h hs=>aZ hs rfl rfl rfl rfl fun h hs=>aQ (b:=p3) (o:=0) hs (by decide) (l:=cY y) rfl rfl ?_)
   refine hf y h _ _ (hs.front A) fun h hs=>bS (dQ (cU (fun h1=>?_) (fun h1=>?_)))
   ·refine bW (bE (by omega) ?_)
    have:=ih (i+1) m h (by omega) (by omega) (by rw[htk,List.filter_append,←he];simp[h1]) (t++[y]) (by simp at ht ⊢;omega)
    rw[hlen]
    refine this ?_
    rw[show m++(t++[y])++l.drop (i+1)=m++t++l.drop i by rw[hd];simp]
    exact hs.to
   ·refine bW (aQ (b:=p3) (o:=0) hs (by decide) (l:=cY y) rfl rfl ?_)
    refine Xo (l:=m++t++l.drop i) (a:=a) (c:=c) (enc:=cY) (e:=261) (y:=y) hs (by decide) (by omega) (by omega) fun h hs=>?_
    cases t with
    |nil=>simp at ht;omega
    |cons z t=>
     refine bE (by omega) (bE (by omega) ?_)
     have:=ih (i+1) (m++[y]) h (by omega) (by simp;omega) (by rw[htk,List.filter_append,←he];simp[h1]) (t++[y]) (by simp at ht ⊢;omega)
     rw[List.length_append] at this
     rw[hlen]
     refine this ?_
     have e5:(m++z::t++l.drop i).set ((m.length:Int)).toNat y=m++[y]++(t++[y])++l.drop (i+1):=by
      rw[Int.toNat_natCast,hd,List.append_assoc,List.set_append_right _ _ (Nat.le_refl _),Nat.sub_self]
      simp
     rw[←e5]
     exact hs.to
 have:=loop (l.length - (j+1)) (j+1) (l.take j) h (by omega) (by rw[List.length_take];omega) ?_ [x] ?_ ?_
 ·rw[List.length_take,Nat.min_eq_left (by omega)] at this
  rw[Nat.zero_add]
  exact this
 ·rw[List.take_add_one,e2,List.filter_append]
  rw[List.filter_eq_self.2 fun y hy=>by rw[e4 y hy];rfl]
  simp[e3]
 ·simp;omega
 ·rw[show l.take j++[x]++l.drop (j+1)=l by
   obtain⟨hj,ex⟩:=List.getElem?_eq_some_iff.1 e2
   rw[←ex,List.append_assoc,List.singleton_append,←List.drop_eq_getElem_cons hj,List.take_append_drop]]
  exact hs
end Go.Proofs.YtajjljbmfdboaaaGreatDoor
end
section
namespace Go.Proofs.YtajjljbmfdboaaaGreatDoor
open Go Go.Ab Go.Hm Go.At Go.Mc
set_option maxRecDepth 100000
variable {G:Bg} {h:AH} {L L':List HP} {Q:Value→AH→Prop} {C:bL}
theorem Vn {p:Nat} {s:lU} {g:Int} (hb:s.known.length≤100) (hs:Hs G h L) [m:Has (iT p C) L s L']
  (hk:∀n h',Hs G h' (iT p C (s.drop C g).1::L')→Q (.tuple ⟨[I n,I (s.drop C g).2]⟩) h'):Cl Pr K 208 [pt p 0 0,I g] h Q:=by
 obtain⟨a,c,hs⟩:=jL (m.of hs)
 unfold lU.drop at hk
 have hsC:∀{h:AH} {M:List HP},[Sub M L']→Hs G h (aE p 0 (wV C s a c)::ls cY 2 261 a c s.known::M)→Hs G h (iT p C s::L'):=fun hs=>(dT p C s (a:=a) (c:=c) hs rfl rfl).to
 refine cW (dI hs fun q h hs=>cN (bV (bW (aU hs fun r h hs=>aC (b:=q) (o:=0) hs rfl (aN (aR (fun h1=>?_) (fun h1=>?_)))))))
 ·rw[if_pos (.inl h1)] at hk
  exact hk _ _ (hsC (M:=aE q 0 [I g]::L') hs.to)
 refine aC (b:=q) (o:=0) hs rfl (aB (aA (aC (b:=p) (o:=0) hs rfl (dR (aR (fun h2=>?_) (fun h2=>?_))))))
 ·rw[if_pos (.inr h2)] at hk
  exact hk _ _ (hsC (M:=aE q 0 [I g]::L') hs.to)
 rw[if_neg (by omega)] at hk
 dsimp only at hk
 refine bW (bN hs fun p1 h hs=>aZ (b:=p1) hs rfl rfl rfl rfl fun h hs=>aB (aA (aC (b:=p) (o:=0) hs rfl (bZ (aB (aA (aC (b:=p) (o:=0) hs rfl ?_)))))))
 have hs:=hs.cA (aE p1 0 [.func (.func 260) #[] #[pt q 0 0]]) (aE q 0 [I g])
 have hs:=hs.zB
 have hs:=hs.cA (sp [aE p1 0 [.func (.func 260) #[] #[pt q 0 0]],aE q 0 [I g]]) (ls cY 2 261 a c s.known)
 refine Wj (Zx (p:=p1) (q:=q) (g:=g)) (by omega) hs fun h hs=>?_
 have hs:=hs.xA
 refine aB (aA (bI (b:=p) (o:=0) hs rfl rfl rfl rfl fun h hs=>aU hs fun r2 h hs=>aB (aA (aA (aC (b:=p) (o:=0) hs rfl ?_)))))
 have ek:s.known.filter (fun x=> !oK g x)=s.known.filter (fun x=> !decide (g= -1∨x.1=g)):=rfl
 have tail:∀{h:AH} {M:List HP} (st:Bool),[Sub M L']→Hs G h (aE p 0 [.bool s.qD,I s.cE,I s.at',.bool st,I C.entries,I C.bB,.slice a (s.known.filter fun x=> !oK g x).length c]::ls cY 2 261 a c (s.known.filter fun x=> !oK g x)::M)→
   st=(s.sR||(s.qD&&decide (g= -1∨s.cE=g)))→∀n:Int,Q (.tuple ⟨[I n,I 0]⟩) h:=by
  intro h M st _ hs hst n
  refine hk n h ?_
  rw[←hst]
  have:=dT p C {s with known:=s.known.filter fun x=> !oK g x,sR:=st} (a:=a) (c:=c) hs rfl rfl
  exact(show Hs G h (iT p C {s with known:=s.known.filter (fun x=> !decide (g= -1∨x.1=g)),sR:=st}::M) from this).to
 refine cU (fun h3=>?_) (fun h3=>?_)
 ·refine aC (b:=p1) (o:=0) hs rfl (aB (aA (aA (aC (b:=p) (o:=0) hs rfl ?_))))
  refine nA rfl (cW (aC (b:=q) (o:=0) hs rfl (bH ?_)))
  have go:∀{b:Bool},b=decide (g= -1∨s.cE=g)→Br (.bool b) (Dd 208 3 [] Q [(pt p 0 0),(I s.known.length)] h) (bA (mQ (pt p 0 0)) fun v26=>bA (gZ 6 v26) fun v27=>bA (pN h v27) fun v28=>bA (lA v28) fun v29=>bA (uK .sub (I s.known.length) v29) fun v30=>Q (.tuple ⟨[v30,(I 0)]⟩) h):=by
   intro b hb'
   have hfl:=List.length_filter_le (fun x=> !oK g x) s.known
   refine cU (fun h5=>?_) (fun h5=>?_)
   ·refine bW (aB (aA (aA (bI (b:=p) (o:=0) hs rfl rfl rfl rfl fun h hs=>aB (aA (aC (b:=p) (o:=0) hs rfl (bZ (Bh (by omega) ?_))))))))
    refine tail (M:=aE p1 0 [.func (.func 260) #[] #[pt q 0 0]]::aE q 0 [I g]::L') true (hs.sg (b:=p) (o:=0) (c:=[.bool s.qD,I s.cE,I s.at',.bool true,I C.entries,I C.bB,.slice a (s.known.filter fun x=> !oK g x).length c]) rfl).to ?_ _
    rw[←hb',h5,h3];simp
   ·refine aB (aA (aC (b:=p) (o:=0) hs rfl (bZ (Bh (by omega) ?_))))
    refine tail (M:=aE p1 0 [.func (.func 260) #[] #[pt q 0 0]]::aE q 0 [I g]::L') s.sR (hs.sg (b:=p) (o:=0) (c:=[.bool s.qD,I s.cE,I s.at',.bool s.sR,I C.entries,I C.bB,.slice a (s.known.filter fun x=> !oK g x).length c]) rfl).to ?_ _
    rw[←hb',h5,h3];simp
  refine aR (fun h4=>go (by rw[decide_eq_true (.inl h4)])) (fun h4=>aC (b:=q) (o:=0) hs rfl (bH (go (decide_eq_decide.2 (by omega)))))
 ·have hfl:=List.length_filter_le (fun x=> !oK g x) s.known
  refine aB (aA (aC (b:=p) (o:=0) hs rfl (bZ (Bh (by omega) ?_))))
  refine tail (M:=aE p1 0 [.func (.func 260) #[] #[pt q 0 0]]::aE q 0 [I g]::L') s.sR (hs.sg (b:=p) (o:=0) (c:=[.bool s.qD,I s.cE,I s.at',.bool s.sR,I C.entries,I C.bB,.slice a (s.known.filter fun x=> !oK g x).length c]) rfl).to ?_ _
  rw[h3];simp
theorem Wg {p:Nat} {s:lU} (hs:Hs G h L) [m:Has (iT p C) L s L'] (hk:∀g a h',Hs G h' (iT p C s::L')→Q (.tuple ⟨[g,a,.bool s.qD]⟩) h'):Cl Pr K 62 [pt p 0 0] h Q:=by
 obtain⟨a,c,hs⟩:=jL (m.of hs)
 refine cW (cN (bV (aB (aA (aA (aC (b:=p) (o:=0) hs rfl (bS (dQ (cU (fun h1=>?_) (fun h1=>?_))))))))))
 ·refine aU hs fun r h hs=>aB (aA (aA (aC (b:=p) (o:=0) hs rfl (aB (aA (aA (aC (b:=p) (o:=0) hs rfl ?_)))))))
  have:=hk (I s.cE) (I s.at') h (dT p C s (a:=a) (c:=c) hs rfl rfl).to
  rw[h1] at this;exact this
 ·have:=hk (I 0) (I 0) h (dT p C s (a:=a) (c:=c) hs rfl rfl)
  rw[h1] at this;exact this
def O3 (q:Nat) (l:List (Int×Int)):HP:=rY fun x:Option Addr×Nat=>sp [aE q 0 [.slice x.1 l.length x.2],ls cY 2 261 x.1 x.2 l]
theorem Zf {p:Nat} {s:lU} (hb:s.known.length≤100) (hs:Hs G h L) [m:Has (iT p C) L s L'] (hk:∀q h',Hs G h' (O3 q s.known::iT p C s::L')→Q (.func (.func 132) #[] #[pt q 0 0]) h'):Cl Pr K 71 [pt p 0 0] h Q:=by
 obtain⟨a,c,hs⟩:=jL (m.of hs)
 refine cW (bN hs fun q h hs=>Pc (eQ (bW (aB (aA (aC (b:=p) (o:=0) hs rfl (Bu (a:=a) (c:=c) (l:=s.known) hb hs fun a' c' h hs=>aZ (b:=q) hs rfl rfl rfl rfl fun h hs=>hk q _ ?_)))))))
 have hs:=dT p C s (a:=a) (c:=c) (hs.cA (aE p 0 (wV C s a c)) (ls cY 2 261 a c s.known)) rfl rfl
 have hs:=hs.cA (aE q 0 [.slice a' s.known.length c']) (ls cY 2 261 a' c' s.known)
 exact Hs.uH (A:=fun x:Option Addr×Nat=>sp [aE q 0 [.slice x.1 s.known.length x.2],ls cY 2 261 x.1 x.2 s.known]) (a',c') hs.zB
theorem w9 {q:Nat} {l:List (Int×Int)} (hb:l.length≤1000):gu Pr K G 132 [] [pt q 0 0] (O3 q l) (l.map cY):=by
 intro I' J y L h Q hs hy h1 h2
 obtain⟨⟨a,c⟩,hs⟩:=hs.zE
 have hs:=hs.xA
 have shut:∀{h:AH} {M:List HP},Hs G h (aE q 0 [.slice a l.length c]::ls cY 2 261 a c l::M)→Hs G h (O3 q l::M):=fun hs=>Hs.uH (A:=fun x:Option Addr×Nat=>sp [aE q 0 [.slice x.1 l.length x.2],ls cY 2 261 x.1 x.2 l]) (a,c) hs.zB
 refine cW (aC (b:=q) (o:=0) hs rfl (bZ ?_))
 have loop:∀(f i:Nat) (h:AH),i+f=l.length→Hs G h (aE q 0 [.slice a l.length c]::ls cY 2 261 a c l::I' ((l.drop i).map cY)::L)→Dd 132 1 [] Q [y,(.slice a l.length c),(I l.length),(I i)] h:=by
  intro f
  induction f with
  |zero=>
   intro i h hi hs
   rw[List.drop_of_length_le (by omega)] at hs
   exact bW (aN (aK (by omega) (h1 _ _ (shut hs))))
  |succ f ih=>
   intro i h hi hs
   obtain⟨x,hx,hd⟩:=lF (l:=l) (i:=i) (by omega)
   rw[hd,List.map_cons] at hs
   refine bW (aN (bP (by omega) (bW (tM (l:=l) (a:=a) (c:=c) (enc:=cY) (e:=261) hs (by decide) (by omega) (by rw[Int.toNat_natCast];exact hx) (bN hs fun p3 h hs=>aZ hs rfl rfl rfl rfl fun h hs=>aA (aC (b:=p3) (o:=0) hs rfl (aA (aC (b:=p3) (o:=0) hs rfl ?_))))))))
   refine(hy _ _ h _ (hs.front (I' (cY x::((l.drop (i+1)).map cY))))).mono fun v h' hv=>?_
   rcases hv with⟨rfl,hs'⟩|⟨rfl,hs'⟩
   ·exact bS (bV (bW (bE (by omega) (ih (i+1) h' (by omega) hs'.to))))
   ·exact bS (eQ (h2 _ _ (shut hs'.to)))
 exact loop l.length 0 h (by omega) (by rw[List.drop_zero];exact hs)
end Go.Proofs.YtajjljbmfdboaaaGreatDoor
end
section
namespace Go.Proofs.YtajjljbmfdboaaaGreatDoor
open Go Go.Ab Go.Hm Go.At Go.Mc
instance:Fx aJ.enc 9:=⟨fun _=>rfl,fun _=>rfl⟩
set_option maxRecDepth 100000
variable {G:Bg} {h:AH} {L L':List HP} {Q:Value→AH→Prop} {C:bL}
abbrev qF (a:Option Addr) (c:Nat) (l:List aJ):HP:=ls aJ.enc 9 175 a c l
def mT (C:bL) (p:Nat) (l:List aJ):HP:=rY fun x:Option Addr×Nat=>sp [aE p 0 [I C.depth,.slice x.1 l.length x.2],qF x.1 x.2 l]
theorem yM {p:Nat} {l:List aJ} (hs:Hs G h (mT C p l::L)):∃a c,Hs G h (aE p 0 [I C.depth,.slice a l.length c]::qF a c l::L):=by
 obtain⟨⟨a,c⟩,hs⟩:=hs.zE
 exact⟨a,c,hs.xA⟩
theorem mM {p:Nat} {l:List aJ} {a:Option Addr} {c:Nat} (hs:Hs G h (aE p 0 [I C.depth,.slice a l.length c]::qF a c l::L)):Hs G h (mT C p l::L):=
 Hs.uH (A:=fun x:Option Addr×Nat=>sp [aE p 0 [I C.depth,.slice x.1 l.length x.2],qF x.1 x.2 l]) (a,c) hs.zB
theorem bx (hC:C.Ok) (hs:Hs G h L) (hk:∀p h',Hs G h' (mT C p []::L)→Q (.tuple ⟨[pt p 0 0,I 0]⟩) h'):Cl Pr K 147 [I C.depth] h Q:=by
 have hd:1≤C.depth∧C.depth≤16:=hC.2.2.2.2.1
 refine cW (aN (aK (by omega) (iS (aK (by omega) (aH (c:=[I C.depth,.slice none 0 0]) rfl (dI hs fun p h hs=>hk _ _ ?_))))))
 have hs:=(pV (enc:=aJ.enc) (W:=9) (e:=175) hs).kA
 exact mM hs
theorem vF {a:Option Addr} {c:Nat} {l:List aJ} (hb:l.length≤2^30) (hs:Hs G h L) [m:Has (qF a c) L l L']
  (hk:∀a' c' h',Hs G h' (qF a' c' l::qF a c l::L')→Q (.slice a' l.length c') h'):Cl Pr K 139 [.slice a l.length c] h Q:=
 cW (zM (e:=175) (show Hs G h (dB 9 175 a c (l.length,eL aJ.enc l)::L') from m.of hs) (by omega) hk)
theorem Xi {p:Nat} {l:List aJ} (hd:1≤C.depth∧C.depth≤16) (hb:l.length≤1000) (hs:Hs G h L) [m:Has (mT C p) L l L'] (hk:∀h',Hs G h' (mT C p l::L')→Q (I (C.depth - l.length)) h'):Cl Pr K 269 [pt p 0 0] h Q:=by
 obtain⟨a,c,hs⟩:=yM (m.of hs)
 refine cW (cN (bV (aU hs fun r h hs=>aB (aA (aC (b:=p) (o:=0) hs rfl (aB (aA (aC (b:=p) (o:=0) hs rfl (bZ (Bh (by omega) (hk _ ?_)))))))))))
 exact mM (a:=a) (c:=c) hs.to
theorem vc {p:Nat} {l:List aJ} {n:aJ} {a2:Option Addr} {c2:Nat} (hd:1≤C.depth∧C.depth≤16) (hb:(l.length:Int)<C.depth) (hs:Hs G h L) [m:Has (mT C p) L l L'] {M:List HP} [m2:dP (qF a2 c2 [n]) L' M] (hk:∀h',Hs G h' (mT C p (l++[n])::M)→Q (I 0) h'):
  Cl Pr K 216 [pt p 0 0,.slice a2 1 c2] h Q:=by
 have hs:Hs G h (mT C p l::qF a2 c2 [n]::M):=(m.of hs).perm (m2.perm.cons _)
 refine cW (cN (bV (bW (bZ (Xi (C:=C) (p:=p) (l:=l) hd (by omega) hs fun h hs=>iS (aK (by omega) ?_))))))
 obtain⟨a,c,hs⟩:=yM hs
 refine bW (aB (aA (aC (b:=p) (o:=0) hs rfl ?_)))
 refine kB (enc:=aJ.enc) (W:=9) (e:=175) (a:=a) (c:=c) (l:=l) (a2:=a2) (c2:=c2) (l2:=[n]) hs (by simp;omega) fun a' c' h hs=>?_
 refine aB (aA (bI (b:=p) (o:=0) hs rfl rfl rfl rfl fun h hs=>hk _ ?_))
 have hs:Hs G h (aE p 0 [I C.depth,.slice a' (l++[n]).length c']::qF a' c' (l++[n])::M):=(hs.sg (b:=p) (o:=0) (c:=[I C.depth,.slice a' (l++[n]).length c']) rfl).to
 exact mM hs
theorem Bz {p:Nat} {l:List aJ} {w:Int} (hb:l.length≤1000) (hs:Hs G h L) [m:Has (mT C p) L l L']
  (h0:l=[]→∀h',Hs G h' (mT C p l::L')→Q (.tuple ⟨[.agg ⟨aJ.zero.enc⟩,I 12]⟩) h')
  (hk:l≠[]→∀h',Hs G h' (mT C p (l.eraseIdx (w % (l.length:Int)).toNat)::L')→Q (.tuple ⟨[.agg ⟨(l.getD (w % (l.length:Int)).toNat aJ.zero).enc⟩,I 0]⟩) h'):Cl Pr K 199 [pt p 0 0,I w] h Q:=by
 obtain⟨a,c,hs⟩:=yM (m.of hs)
 refine cW (bN (cs:=aJ.zero.enc) hs fun p4 h hs=>cN (bV (bW (aB (aA (aC (b:=p) (o:=0) hs rfl (bZ (bH (aR (fun h1=>?_) (fun h1=>?_))))))))))
 ·have hl:l=[]:=List.eq_nil_of_length_eq_zero (by omega)
  refine aH (c:=aJ.zero.enc) rfl (aZ (b:=p4) hs rfl rfl rfl rfl fun h hs=>aQ (b:=p4) (o:=0) hs (by decide) (l:=aJ.zero.enc) rfl rfl (h0 hl _ (mM (a:=a) (c:=c) hs.to)))
 have hl:l≠[]:=fun e=>by rw[e] at h1;simp at h1
 have hpos:0<l.length:=List.length_pos_iff.2 hl
 refine bW (aB (aA (aC (b:=p) (o:=0) hs rfl (bZ (aB1 (by omega) ?_)))))
 obtain⟨k,hkk,hkl⟩:∃k:Nat,(k:Int)=w % (l.length:Int)∧k<l.length:=by
  have e1:=Int.emod_nonneg w (b:=(l.length:Int)) (by omega)
  have e2:=Int.emod_lt_of_pos w (b:=(l.length:Int)) (by omega)
  exact⟨(w % (l.length:Int)).toNat,by omega,by omega⟩
 rw[←hkk,Int.toNat_natCast] at hk
 have hgo:∀(M:List HP) (h:AH) (q:Nat),[Sub M L']→Hs G h (aE q 0 aJ.zero.enc::aE p4 0 aJ.zero.enc::aE p 0 [I C.depth,.slice a l.length c]::qF a c l::M)→Dd 199 5 [] Q [(pt p 0 0),(pt p4 0 0),(I k),(pt q 0 0),(.slice none 0 0),(.slice a l.length c),(I l.length),(I 0)] h:=by
  intro M h q _ hs
  have loop:∀(f i:Nat) (b:Option Addr) (d:Nat) (x:aJ) (h:AH),i+f=l.length→x=(if i≤k then aJ.zero else l.getD k aJ.zero)→
    Hs G h (qF b d ((l.take i).eraseIdx k)::aE q 0 x.enc::aE p4 0 aJ.zero.enc::aE p 0 [I C.depth,.slice a l.length c]::qF a c l::M)→
    Dd 199 5 [] Q [(pt p 0 0),(pt p4 0 0),(I k),(pt q 0 0),(.slice b ((l.take i).eraseIdx k).length d),(.slice a l.length c),(I l.length),(I i)] h:=by
   intro f
   induction f with
   |zero=>
    intro i b d x h hi hx hs
    have hil:i=l.length:=by omega
    rw[if_neg (by omega)] at hx
    subst hil
    rw[List.take_length] at hs ⊢
    refine bW (aN (aK (by omega) (bW (aB (aA (bI (b:=p) (o:=0) hs rfl rfl rfl rfl fun h hs=>aQ (b:=q) (o:=0) hs (by decide) (l:=x.enc) rfl rfl (aZ (b:=p4) hs rfl rfl rfl rfl fun h hs=>aQ (b:=p4) (o:=0) hs (by decide) (l:=x.enc) rfl rfl ?_)))))))
    rw[hx]
    refine hk hl h ?_
    have hs:Hs G h (aE p 0 [I C.depth,.slice b (l.eraseIdx k).length d]::qF b d (l.eraseIdx k)::M):=(hs.sg (b:=p) (o:=0) (c:=[I C.depth,.slice b (l.eraseIdx k).length d]) rfl).to
    exact(mM hs).to
   |succ f ih=>
    intro i b d x h hi hx hs
    obtain⟨y,hy,hd⟩:=lF (l:=l) (i:=i) (by omega)
    have htk:l.take (i+1)=l.take i++[y]:=by rw[List.take_add_one,hy];rfl
    have hle:((l.take i).eraseIdx k).length≤l.length:=by
     have:=List.length_eraseIdx_le (l.take i) k
     rw[List.length_take] at this
     omega
    refine bW (aN (bP (by omega) (bW (tM (l:=l) (a:=a) (c:=c) (enc:=aJ.enc) (e:=175) hs.tail (by decide) (by omega) (by rw[Int.toNat_natCast];exact hy) (bN hs fun p3 h hs=>aZ (b:=p3) hs rfl rfl rfl rfl fun h hs=>bH (aR (fun h2=>?_) (fun h2=>?_)))))))
    ·have hik:i=k:=by omega
     refine bW (aQ (b:=p3) (o:=0) hs (by decide) (l:=y.enc) rfl rfl (aZ (b:=q) hs rfl rfl rfl rfl fun h hs=>bE (by omega) ?_))
     have hlt:(l.take i).length=i:=by rw[List.length_take];omega
     have e1:(l.take (i+1)).eraseIdx k=(l.take i).eraseIdx k:=by
      have e2:(l.take i).eraseIdx k=l.take i:=List.eraseIdx_of_length_le (by omega)
      rw[htk,List.eraseIdx_append_of_length_le (by omega),hlt,show k - i=0 by omega,e2]
      simp
     have:=ih (i+1) b d y h (by omega) (by rw[if_neg (by omega),←hik,List.getD_eq_getElem?_getD,hy];rfl)
     rw[e1] at this
     exact this hs.to
    ·refine bW (aQ (b:=p3) (o:=0) hs (by decide) (l:=y.enc) rfl rfl (aH (c:=y.enc) rfl (dE (W:=9) (n:=1) (c:=1) hs rfl rfl rfl fun a2 h hs=>?_)))
     refine kB (enc:=aJ.enc) (W:=9) (e:=175) (a:=b) (c:=d) (l:=(l.take i).eraseIdx k) (a2:=some a2) (c2:=1) (l2:=[y]) (nL hs) (by simp;omega) fun a' c' h hs=>bE (by omega) ?_
     have e1:(l.take (i+1)).eraseIdx k=(l.take i).eraseIdx k++[y]:=by
      rw[htk]
      by_cases hlt:k<i
      ·rw[List.eraseIdx_append_of_lt_length (by rw[List.length_take];omega)]
      ·rw[List.eraseIdx_of_length_le (by simp;omega),List.eraseIdx_of_length_le (by rw[List.length_take];omega)]
     have:=ih (i+1) a' c' x h (by omega) (by rw[hx];by_cases e:i≤k;rw[if_pos e,if_pos (by omega)];rw[if_neg e,if_neg (by omega)])
     rw[e1] at this
     exact this hs.to
  have:=loop l.length 0 none 0 aJ.zero h (by omega) (by simp) (by simpa using pV (enc:=aJ.enc) (W:=9) (e:=175) hs)
  simpa using this
 by_cases hw:w.tmod (l.length:Int)<0
 ·refine aN (bP hw (bW (aB (aA (aC (b:=p) (o:=0) hs rfl (bZ ?_))))))
  have e:w.tmod (l.length:Int)+(l.length:Int)=(k:Int):=by
   rw[hkk]
   rw[Int.tmod_eq_emod] at hw ⊢
   split at hw
   ·have:=Int.emod_nonneg w (b:=(l.length:Int)) (by omega);omega
   ·rename_i hc
    rw[if_neg hc]
    simp
  refine bE (by omega) ?_
  rw[e]
  exact bN (cs:=aJ.zero.enc) hs fun q h hs=>aB (aA (aC (b:=p) (o:=0) hs rfl (bZ (hgo L' h q hs.to))))
 ·refine aN (aK hw (bW ?_))
  have e:w.tmod (l.length:Int)=(k:Int):=by
   rw[hkk]
   rw[Int.tmod_eq_emod] at hw ⊢
   split at hw
   ·rename_i hc;rw[if_pos hc];simp
   ·rename_i hc
    exfalso
    have h2:=Int.emod_lt_of_pos w (b:=(l.length:Int)) (by omega)
    have h3:=Int.emod_nonneg w (b:=(l.length:Int)) (by omega)
    simp at hw
    omega
  rw[e]
  exact bN (cs:=aJ.zero.enc) hs fun q h hs=>aB (aA (aC (b:=p) (o:=0) hs rfl (bZ (hgo L' h q hs.to))))
theorem Vm {p:Nat} {l:List aJ} (hb:l.length≤1000) (hs:Hs G h L) [m:Has (mT C p) L l L'] (hk:∀q h',Hs G h' (mT C q l::mT C p l::L')→Q (pt q 0 0) h'):Cl Pr K 141 [pt p 0 0] h Q:=by
 obtain⟨a,c,hs⟩:=yM (m.of hs)
 refine cW (cN (bV (aU hs fun r h hs=>aB (aA (aC (b:=p) (o:=0) hs rfl (aB (aA (aC (b:=p) (o:=0) hs rfl (vF (a:=a) (c:=c) (l:=l) (by omega) hs fun a' c' h hs=>?_)))))))))
 refine aH (c:=[I C.depth,.slice a' l.length c']) rfl (xQ (i:=10) (r:=r) hs rfl rfl fun q h hs=>cQ dA (cQ (aB dA) (cQ (aA dA) (cQ (aC (b:=p) (o:=0) hs rfl gC) (hk _ _ ?_)))))
 have hs:Hs G h (aE p 0 [I C.depth,.slice a l.length c]::qF a c l::aE q 0 [I C.depth,.slice a' l.length c']::qF a' c' l::L'):=hs.to
 have hs:=mM hs
 exact(mM (show Hs G h (aE q 0 [I C.depth,.slice a' l.length c']::qF a' c' l::mT C p l::L') from hs.to)).to
def sw (q:Nat) (l:List aJ):HP:=rY fun x:Option Addr×Nat=>sp [aE q 0 [.slice x.1 l.length x.2],qF x.1 x.2 l]
theorem ky {a:Option Addr} {c:Nat} {l:List aJ} (hs:Hs G h L) [m:Has (qF a c) L l L'] (hk:∀q h',Hs G h' (sw q l::L')→Q (.func (.func 224) #[] #[pt q 0 0]) h'):Cl Pr K 164 [.slice a l.length c] h Q:=by
 refine cW (dI (m.of hs) fun q h hs=>hk q h ?_)
 exact Hs.uH (A:=fun x:Option Addr×Nat=>sp [aE q 0 [.slice x.1 l.length x.2],qF x.1 x.2 l]) (a,c) hs.zB
theorem aEe {q:Nat} {l:List aJ} (hb:l.length≤100000):gu Pr K G 224 [] [pt q 0 0] (sw q l) (l.map fun n=>[.agg ⟨n.enc⟩]):=by
 intro I' J y L h Q hs hy h1 h2
 obtain⟨⟨a,c⟩,hs⟩:=hs.zE
 have hs:=hs.xA
 have shut:∀{h:AH} {M:List HP},Hs G h (aE q 0 [.slice a l.length c]::qF a c l::M)→Hs G h (sw q l::M):=fun hs=>Hs.uH (A:=fun x:Option Addr×Nat=>sp [aE q 0 [.slice x.1 l.length x.2],qF x.1 x.2 l]) (a,c) hs.zB
 refine cW (aC (b:=q) (o:=0) hs rfl (bZ ?_))
 have loop:∀(f i:Nat) (h:AH),i+f=l.length→Hs G h (aE q 0 [.slice a l.length c]::qF a c l::I' ((l.drop i).map fun n=>[.agg ⟨n.enc⟩])::L)→Dd 224 1 [] Q [y,(.slice a l.length c),(I l.length),(I i)] h:=by
  intro f
  induction f with
  |zero=>
   intro i h hi hs
   rw[List.drop_of_length_le (by omega)] at hs
   exact bW (aN (aK (by omega) (h1 _ _ (shut hs))))
  |succ f ih=>
   intro i h hi hs
   obtain⟨x,hx,hd⟩:=lF (l:=l) (i:=i) (by omega)
   rw[hd,List.map_cons] at hs
   refine bW (aN (bP (by omega) (bW (tM (l:=l) (a:=a) (c:=c) (enc:=aJ.enc) (e:=175) hs (by decide) (by omega) (by rw[Int.toNat_natCast];exact hx) (bN hs fun p3 h hs=>aZ (b:=p3) hs rfl rfl rfl rfl fun h hs=>aQ (b:=p3) (o:=0) hs (by decide) (l:=x.enc) rfl rfl ?_)))))
   refine(hy _ _ h _ (hs.front (I' ([.agg ⟨x.enc⟩]::((l.drop (i+1)).map fun n=>[.agg ⟨n.enc⟩]))))).mono fun v h' hv=>?_
   rcases hv with⟨rfl,hs'⟩|⟨rfl,hs'⟩
   ·exact bS (bV (bW (bE (by omega) (ih (i+1) h' (by omega) hs'.to))))
   ·exact bS (eQ (h2 _ _ (shut hs'.to)))
 exact loop l.length 0 h (by omega) (by rw[List.drop_zero];exact hs)
theorem Y6 {p:Nat} {l:List aJ} (hb:l.length≤1000) (hs:Hs G h L) [m:Has (mT C p) L l L'] (hk:∀q h',Hs G h' (sw q l::mT C p l::L')→Q (.func (.func 224) #[] #[pt q 0 0]) h'):Cl Pr K 116 [pt p 0 0] h Q:=by
 obtain⟨a,c,hs⟩:=yM (m.of hs)
 refine cW (cN (bV (aB (aA (aC (b:=p) (o:=0) hs rfl (vF (a:=a) (c:=c) (l:=l) (by omega) hs fun a' c' h hs=>ky (a:=a') (c:=c') (l:=l) hs fun q h hs=>hk q h ?_))))))
 have hs:Hs G h (aE p 0 [I C.depth,.slice a l.length c]::qF a c l::sw q l::L'):=hs.to
 exact(mM hs).kA
end Go.Proofs.YtajjljbmfdboaaaGreatDoor
end
section
namespace Go.Proofs.YtajjljbmfdboaaaGreatDoor
open Go Go.Ab Go.Hm Go.At Go.Mc Go.Nt
theorem aEa {k:Nat} (h:1≤k∧k<14):∃fs,B2 k=1::fs:=by
 rcases k14 h.2 with rfl|rfl|rfl|rfl|rfl|rfl|rfl|rfl|rfl|rfl|rfl|rfl|rfl|rfl
 ·omega
 all_goals exact⟨_,rfl⟩
theorem ng {C:bL} {n:aJ} (h:wQ C n=0):Nu n.kind∧0≤n.core∧n.core<C.aF:=by
 unfold wQ at h
 split at h
 ·rename_i hk
  split at h
  ·split at h
   ·rename_i hw
    refine⟨hk,?_⟩
    unfold Nu at hk
    obtain⟨fs,hf⟩:=aEa (k:=n.kind.toNat) (by omega)
    rw[hf] at hw
    have h1:=hw.1
    unfold pL at h1
    split at h1
    ·rename_i hm
     exact hm
    ·cases h1
   ·cases h
  ·cases h
 ·cases h
theorem ru {k:Nat} (h:k<14):0≤K7 k∧K7 k<4:=by
 rcases k14 h with rfl|rfl|rfl|rfl|rfl|rfl|rfl|rfl|rfl|rfl|rfl|rfl|rfl|rfl<;>decide
theorem He {n:aJ} (h:Nu n.kind):fL n<4∧K7 n.kind.toNat=(fL n:Int):=by
 unfold Nu at h
 have:=ru (k:=n.kind.toNat) (by omega)
 unfold fL
 omega
theorem Jx {_α:Type} {n j:Nat} {g:Nat→Value} {v:Value} (hj:j<n):dL ((List.range n).map g) j [v]=(List.range n).map fun k=>if k=j then v else g k:=by
 rw[←pI _ _ _ (by simp;omega)]
 apply List.ext_getElem?
 intro i
 unfold bY
 simp only[List.length_singleton]
 by_cases h:i<j
 ·rw[List.append_assoc,List.getElem?_append_left (by simp;omega),List.getElem?_take_of_lt h,List.getElem?_map,List.getElem?_map]
  by_cases hn:i<n
  ·rw[List.getElem?_range hn];simp;intro e;omega
  ·omega
 ·rw[List.append_assoc,List.getElem?_append_right (by simp;omega)]
  have hm:min j n=j:=by omega
  simp only[List.length_take,List.length_map,List.length_range,hm]
  by_cases h2:i=j
  ·subst h2
   rw[List.getElem?_append_left (by simp),Nat.sub_self,List.getElem?_map,List.getElem?_range hj]
   simp
  ·rw[List.getElem?_append_right (by rw[List.length_singleton];omega),List.getElem?_drop,List.length_singleton,show j+1+(i - j - 1)=i by omega,List.getElem?_map,List.getElem?_map]
   by_cases hn:i<n
   ·rw[List.getElem?_range hn];simp[h2]
   ·rw[List.getElem?_eq_none (by simp;omega)];rfl
set_option maxRecDepth 100000
variable {G:Bg} {h:AH} {L L' M:List HP} {Q:Value→AH→Prop} {C:bL}
def kT (C:bL) (pl:Nat→Nat):List Value:=C.enc++(List.range 16).map fun k=>if k<4*C.aF.toNat then pt (pl k) 0 0 else .pointer none
theorem uv {pl:Nat→Nat} {k:Nat} (hk:k<16):(kT C pl)[7+k]?=some (if k<4*C.aF.toNat then pt (pl k) 0 0 else .pointer none):=by
 unfold kT
 rw[List.getElem?_append_right (by simp[bL.enc])]
 simp[bL.enc,List.getElem?_range hk]
abbrev mP (C:bL) (pl:Nat→Nat) (F:fS) (k:Nat):HP:=mT C (pl k) (F (k/4) (k % 4))
def mF (C:bL) (f:Nat) (F:fS):HP:=rY fun pl:Nat→Nat=>sp [aE f 0 (kT C pl),dD (4*C.aF.toNat) (mP C pl F)]
theorem yA {f:Nat} {F:fS} (hs:Hs G h (mF C f F::L)):∃pl,Hs G h (aE f 0 (kT C pl)::dD (4*C.aF.toNat) (mP C pl F)::L):=by
 obtain⟨pl,hs⟩:=hs.zE
 exact⟨pl,hs.xA⟩
theorem kP {f:Nat} {F:fS} {pl:Nat→Nat} (hs:Hs G h (aE f 0 (kT C pl)::dD (4*C.aF.toNat) (mP C pl F)::L)):Hs G h (mF C f F::L):=
 Hs.uH (A:=fun pl:Nat→Nat=>sp [aE f 0 (kT C pl),dD (4*C.aF.toNat) (mP C pl F)]) pl hs.zB
def Wv (C:bL) (pl:Nat→Nat) (F:fS) (k:Nat):HP:=sp (((List.range (4*C.aF.toNat)).erase k).map (mP C pl F))
theorem Bs {F:fS} {pl:Nat→Nat} {k:Nat} (hk:k<4*C.aF.toNat) (hs:Hs G h (dD (4*C.aF.toNat) (mP C pl F)::L)):Hs G h (mT C (pl k) (F (k/4) (k % 4))::Wv C pl F k::L):=hs.kY k hk
theorem kg {F:fS} {k j:Nat} {l:List aJ}:(F.set (k/4) (k % 4) l) (j/4) (j % 4)=if j=k then l else F (j/4) (j % 4):=by
 unfold fS.set
 by_cases e:j=k
 ·subst e;simp
 ·rw[if_neg e,if_neg (by omega)]
theorem Gw {F:fS} {pl:Nat→Nat} {k:Nat} {l:List aJ} (hk:k<4*C.aF.toNat) (hs:Hs G h (mT C (pl k) l::Wv C pl F k::L)):Hs G h (dD (4*C.aF.toNat) (mP C pl (F.set (k/4) (k % 4) l))::L):=by
 refine Hs.jx (i:=k) (f:=mP C pl F) (g:=mP C pl (F.set (k/4) (k % 4) l)) hk (fun j hj=>?_) ?_
 ·unfold mP;rw[kg,if_neg hj]
 ·have e:mP C pl (F.set (k/4) (k % 4) l) k=mT C (pl k) l:=by unfold mP;rw[kg,if_pos rfl]
  rw[e];exact hs
theorem vL {f:Nat} {pl:Nat→Nat} {x y:Int} (hC:C.Ok) (hs:Hs G h L) [m:Has (aE f 0) L (kT C pl) L'] (hk:Q (if(0≤x∧x<C.aF)∧(0≤y∧y<4) then pt (pl (x.toNat*4+y.toNat)) 0 0 else .pointer none) h):Cl Pr K 115 [pt f 0 0,I x,I y] h Q:=by
 have hc:=hC.1
 refine cW (cN (bV (aN (aR (fun h1=>?_) (fun h1=>aB (aA (aA (aC (b:=f) (o:=0) hs rfl (dR (aR (fun h2=>?_) (fun h2=>aN (aR (fun h3=>?_) (fun h3=>dR (aR (fun h4=>?_) (fun h4=>?_)))))))))))))))
 ·rw[if_neg (by omega)] at hk;exact hk
 ·rw[if_neg (by omega)] at hk;exact hk
 ·rw[if_neg (by omega)] at hk;exact hk
 ·rw[if_neg (by omega)] at hk;exact hk
 ·rw[if_pos (by omega)] at hk
  refine aB (aA (eZ (by omega) (by omega) (eZ (by omega) (by omega) (aC (b:=f) (o:=0) hs (v:=pt (pl (x.toNat*4+y.toNat)) 0 0) ?_ hk))))
  rw[show 0+7+x.toNat*4+y.toNat*1=7+(x.toNat*4+y.toNat) by omega,uv (by omega),if_pos (by omega)]
theorem qm {f:Nat} {F:fS} {pl:Nat→Nat} {x:Nat} {y:Nat} (hC:C.Ok) (hd:∀c w,(F c w).length≤1000) (hx:(x:Int)<C.aF) (hy:y<4) (hs:Hs G h (aE f 0 (kT C pl)::dD (4*C.aF.toNat) (mP C pl F)::L)) (hk:∀h',Hs G h' (aE f 0 (kT C pl)::dD (4*C.aF.toNat) (mP C pl F)::L)→Q (I (C.depth - (F x y).length)) h'):Cl Pr K 215 [pt f 0 0,I x,I y] h Q:=by
 have hc:=hC.1
 have hdp:1≤C.depth∧C.depth≤16:=hC.2.2.2.2.1
 refine cW (vL (C:=C) (pl:=pl) hC hs ?_)
 rw[if_pos (by omega)]
 have hkk:x*4+y<4*C.aF.toNat:=by omega
 have hs:=Bs hkk hs.kA
 rw[show((x:Int)).toNat*4+((y:Int)).toNat=x*4+y by omega]
 refine Xi (C:=C) (l:=F ((x*4+y)/4) ((x*4+y) % 4)) hdp (hd _ _) hs fun h hs=>?_
 have e1:(x*4+y)/4=x∧(x*4+y) % 4=y:=by omega
 have:=hk h
 rw[e1.1,e1.2]
 refine this ?_
 have hs:=Gw hkk hs
 have e2:F.set ((x*4+y)/4) ((x*4+y) % 4) (F ((x*4+y)/4) ((x*4+y) % 4))=F:=by
  funext c w;unfold fS.set;split
  ·rename_i e;rw[e.1,e.2]
  ·rfl
 rw[e2] at hs
 exact hs.kA
def tZ (F F':fS):List Value:=(List.range 16).map fun k=>I (((F' (k/4) (k % 4)).length:Int) - (F (k/4) (k % 4)).length)
theorem o7 {F F':fS} {x y:Nat} (hx:x<4) (hy:y<4):(tZ F F')[x*4+y]?=some (I (((F' x y).length:Int) - (F x y).length)):=by
 unfold tZ
 rw[List.getElem?_map,List.getElem?_range (by omega)]
 have e1:(x*4+y)/4=x∧(x*4+y) % 4=y:=by omega
 simp[e1.1,e1.2]
theorem rf {F F':fS} {n:aJ} {x y:Nat} (hx:n.core.toNat=x) (hy:fL n=y) (hx4:x<4) (hy4:y<4):dL (tZ F F') (x*4+y) [I (((F' x y).length:Int) - (F x y).length+1)]=tZ F (F'.put n):=by
 unfold tZ
 rw[Jx (_α:=Nat) (by omega)]
 refine List.map_congr_left fun k hk=>?_
 have hk:=List.mem_range.1 hk
 unfold fS.put
 rw[hx,hy]
 by_cases e:k=x*4+y
 ·subst e
  have e1:(x*4+y)/4=x∧(x*4+y) % 4=y:=by omega
  rw[if_pos rfl,e1.1,e1.2]
  unfold fS.set
  rw[if_pos ⟨rfl,rfl⟩,List.length_append]
  congr 1
  simp
  omega
 ·rw[if_neg e]
  unfold fS.set
  rw[if_neg (by omega)]
end Go.Proofs.YtajjljbmfdboaaaGreatDoor
end
section
namespace Go.Proofs.YtajjljbmfdboaaaGreatDoor
open Go Go.Ab Go.Hm Go.At Go.Mc Go.Nt
set_option maxRecDepth 100000
variable {G:Bg} {h:AH} {L L' M:List HP} {Q:Value→AH→Prop} {C:bL}
theorem bg {d:Int} {F:fS} {n:aJ} {l:List aJ}:fS.F0 d F (n::l)=if((F n.core.toNat (fL n)).length:Int)<d then fS.F0 d (F.put n) l else none:=rfl
theorem Zw {n:aJ} {l:List aJ}:cK C (n::l)=if wQ C n≠0 then wQ C n else cK C l:=rfl
theorem Sg {l:List aJ} (h:cK C l=0):∀n∈l,wQ C n=0:=by
 induction l with
 |nil=>intro n hn;cases hn
 |cons x l ih=>
  unfold cK at h
  split at h
  ·rename_i hx;exact absurd h hx
  ·rename_i hx
   intro n hn
   rcases List.mem_cons.1 hn with rfl|hn
   ·omega
   ·exact ih h n hn
theorem qx {f:Nat} {F:fS} {n:aJ} {a2:Option Addr} {c2:Nat} (hC:C.Ok) (hn:wQ C n=0) (hr:((F n.core.toNat (fL n)).length:Int)<C.depth) {pl:Nat→Nat} {Q:Value→AH→Prop}
  (hs:Hs G h (qF a2 c2 [n]::aE f 0 (kT C pl)::dD (4*C.aF.toNat) (mP C pl F)::L)) (hk:∀h',Hs G h' (aE f 0 (kT C pl)::dD (4*C.aF.toNat) (mP C pl (F.put n))::L)→Q (I 0) h'):
  Cl Pr K 216 [pt (pl (n.core.toNat*4+fL n)) 0 0,.slice a2 1 c2] h Q:=by
 obtain⟨hk1,hk2⟩:=ng hn
 have hl:=(He hk1).1
 have hc:=hC.1
 have hkk:n.core.toNat*4+fL n<4*C.aF.toNat:=by omega
 have e1:(n.core.toNat*4+fL n)/4=n.core.toNat∧(n.core.toNat*4+fL n) % 4=fL n:=by omega
 have hs:=Bs hkk (hs.front (dD (4*C.aF.toNat) (mP C pl F)))
 rw[e1.1,e1.2] at hs
 refine vc (C:=C) (l:=F n.core.toNat (fL n)) (n:=n) hC.2.2.2.2.1 hr hs fun h hs=>?_
 have hs:Hs G h (mT C (pl (n.core.toNat*4+fL n)) (F n.core.toNat (fL n)++[n])::Wv C pl F (n.core.toNat*4+fL n)::aE f 0 (kT C pl)::L):=hs.to
 have hs:=Gw hkk hs
 rw[e1.1,e1.2] at hs
 exact hk _ hs.kA
theorem Cx {f:Nat} {F:fS} {l:List aJ} {a:Option Addr} {c:Nat} (hC:C.Ok) (hd:∀c w,(F c w).length≤500) (hl:l.length≤100) (hkd:Ob G 2 uY) (hlm:Ob G 0 fB) (hs:Hs G h L) [m:Has (mF C f) L F L'] [m2:dP (qF a c l) L' M]
  (hk:∀h',Hs G h' (mF C f (fS.send C F l).1::qF a c l::M)→Q (I (fS.send C F l).2) h'):Cl Pr K 157 [pt f 0 0,.slice a l.length c] h Q:=by
 have hc:=hC.1
 have hdp:1≤C.depth∧C.depth≤16:=hC.2.2.2.2.1
 obtain⟨pl,hs⟩:=yA (m.of hs)
 have hs:Hs G h (qF a c l::aE f 0 (kT C pl)::dD (4*C.aF.toNat) (mP C pl F)::M):=hs.perm (((m2.perm.cons _).cons _).trans (((List.Perm.swap _ _ _).cons _).trans (List.Perm.swap _ _ _)))
 unfold fS.send at hk
 have shut:∀{h:AH} {L2:List HP} {F':fS},[Sub L2 M]→Hs G h (qF a c l::aE f 0 (kT C pl)::dD (4*C.aF.toNat) (mP C pl F')::L2)→Hs G h (mF C f F'::qF a c l::M):=by
  intro h L2 F' _ hs
  have hs:=hs.cA (aE f 0 (kT C pl)) (dD (4*C.aF.toNat) (mP C pl F'))
  exact(kP hs).to
 have loop3:∀(k i:Nat) (Fi Fe:fS) (L2:List HP) (h:AH),[Sub L2 M]→i+k=l.length→cK C l=0→fS.F0 C.depth F l=some Fe→fS.F0 C.depth Fi (l.drop i)=some Fe→Hs G h (qF a c l::aE f 0 (kT C pl)::dD (4*C.aF.toNat) (mP C pl Fi)::L2)→
   Dd 157 10 [] Q [(pt f 0 0),(.slice a l.length c),(I l.length),(I i)] h:=by
  intro k
  induction k with
  |zero=>
   intro i Fi Fe L2 h _ hi hck he hr hs
   rw[List.drop_of_length_le (by omega)] at hr
   cases hr
   rw[if_neg (by omega),he] at hk
   exact bW (aN (aK (by omega) (hk _ (shut hs))))
  |succ k ih=>
   intro i Fi Fe L2 h _ hi hck he hr hs
   obtain⟨x,hx,hdr⟩:=lF (l:=l) (i:=i) (by omega)
   have hxc:=Sg hck x (List.mem_of_getElem? hx)
   obtain⟨hk1,hk2⟩:=ng hxc
   obtain⟨hl1,hl2⟩:=He hk1
   rw[hdr] at hr
   unfold fS.F0 at hr
   split at hr
   ·rename_i hroom
    refine bW (aN (bP (by omega) (bW (tM (l:=l) (a:=a) (c:=c) (enc:=aJ.enc) (e:=175) hs (by decide) (by omega) (by rw[Int.toNat_natCast];exact hx) (bN hs fun p3 h hs=>aZ (b:=p3) hs rfl rfl rfl rfl fun h hs=>aA (aC (b:=p3) (o:=0) hs rfl (N.Yz hkd hs ?_)))))))
    rw[if_pos hk1,hl2]
    refine aG rfl (aG rfl (aY (aK (by omega) (bW (aU hs fun r1 h0 hs0=>aA (aC (b:=p3) (o:=0) hs0 rfl (vL (C:=C) (pl:=pl) hC hs0 ?_)))))))
    rw[if_pos (by omega)]
    refine aQ (b:=p3) (o:=0) hs0 (by decide) (l:=x.enc) rfl rfl (aH (c:=x.enc) rfl (iW (r:=r1) (i:=6) (N:=9) (D:=[]) hs0 rfl rfl rfl rfl rfl fun a2 h hs=>?_))
    have hs:=nL hs
    have hs:Hs G h (qF (some a2) 1 [x]::aE f 0 (kT C pl)::dD (4*C.aF.toNat) (mP C pl Fi)::qF a c l::L2):=hs.to
    rw[show(x.core.toNat*4+((fL x:Nat):Int).toNat)=x.core.toNat*4+fL x by omega]
    refine qx (f:=f) hC hxc hroom hs fun h hs=>cQ (aQ (b:=p3) (o:=0) hs0 (by decide) (l:=x.enc) rfl rfl (oU ?_)) (aY (aK (by omega) (bW (bE (by omega) (ih (i+1) (Fi.put x) Fe L2 h (by omega) hck he hr hs.to)))))
    simp[aJ.enc,mS]
   ·cases hr
 have loop2:∀(k i p:Nat) (Fi:fS) (L2:List HP) (h:AH),[Sub L2 M]→i+k=l.length→cK C l=0→fS.F0 C.depth F l=fS.F0 C.depth Fi (l.drop i)→(∀c w,(Fi c w).length≤500+i)→Hs G h (aE p 0 (tZ F Fi)::qF a c l::aE f 0 (kT C pl)::dD (4*C.aF.toNat) (mP C pl F)::L2)→
   Dd 157 6 [] Q [(pt f 0 0),(.slice a l.length c),(pt p 0 0),(.slice a l.length c),(I l.length),(I i)] h:=by
  intro k
  induction k with
  |zero=>
   intro i p Fi L2 h _ hi hck he hlen hs
   rw[List.drop_of_length_le (by omega)] at he
   refine bW (aN (aK (by omega) (bW (bZ ?_))))
   exact loop3 l.length 0 F Fi L2 h (by omega) hck he (by rw[List.drop_zero];exact he) hs.tail
  |succ k ih=>
   intro i p Fi L2 h _ hi hck he hlen hs
   obtain⟨x,hx,hdr⟩:=lF (l:=l) (i:=i) (by omega)
   have hxc:=Sg hck x (List.mem_of_getElem? hx)
   obtain⟨hk1,hk2⟩:=ng hxc
   obtain⟨hl1,hl2⟩:=He hk1
   obtain⟨y,hy⟩:∃y:Nat,x.core=(y:Int):=⟨x.core.toNat,by omega⟩
   have hyt:x.core.toNat=y:=by omega
   rw[hdr,bg,hyt] at he
   have hb1:=hlen y (fL x)
   have hb2:=hd y (fL x)
   refine bW (aN (bP (by omega) (bW (tM (l:=l) (a:=a) (c:=c) (enc:=aJ.enc) (e:=175) hs (by decide) (by omega) (by rw[Int.toNat_natCast];exact hx) (bN hs fun p3 h hs=>aZ (b:=p3) hs rfl rfl rfl rfl fun h hs=>aA (aC (b:=p3) (o:=0) hs rfl (N.Yz hkd hs ?_)))))))
   rw[if_pos hk1,hl2]
   have hxe:x.enc[0+1]?=some (I (y:Int)):=by rw[←hy];rfl
   have hat:∀{F':fS},(tZ F F')[0+y*4+fL x*1]?=some (I (((F' y (fL x)).length:Int) - (F y (fL x)).length)):=by
    intro F'
    rw[show 0+y*4+fL x*1=y*4+fL x by omega];exact o7 (by omega) hl1
   have hput:dL (tZ F Fi) (0+y*4+fL x*1) [I (((Fi y (fL x)).length:Int) - (F y (fL x)).length+1)]=tZ F (Fi.put x):=by
    rw[show 0+y*4+fL x*1=y*4+fL x by omega];exact rf hyt rfl (by omega) hl1
   have hml:(tZ F Fi).length=16:=by simp[tZ]
   refine aG rfl (aG rfl (aY (aK (by omega) (bW (aU hs fun r1 h hs=>aA (aC (b:=p3) (o:=0) hs hxe (fQ (by omega) (fQ hl1 (aC (b:=p) (o:=0) hs hat (bE (by omega) (fQ (by omega) (fQ hl1 ?_))))))))))))
   refine bI (b:=p) (o:=0) hs rfl (by rw[hml];exact Nat.ble_eq_true_of_le (by omega)) rfl (by rw[hml];rfl) fun h hs=>?_
   rw[hput] at hs
   refine aU hs fun r2 h hs=>aA (aC (b:=p3) (o:=0) hs hxe (fQ (by omega) (fQ hl1 (aC (b:=p) (o:=0) hs hat (aA (aC (b:=p3) (o:=0) hs hxe ?_))))))
   have hpl:((Fi.put x) y (fL x)).length=(Fi y (fL x)).length+1:=by unfold fS.put fS.set;rw[hyt,if_pos ⟨rfl,rfl⟩,List.length_append];rfl
   have hs:=hs.cA (aE f 0 (kT C pl)) (dD (4*C.aF.toNat) (mP C pl F))
   refine qm (C:=C) (F:=F) (x:=y) (y:=fL x) hC (fun c w=>by have:=hd c w;omega) (by omega) hl1 hs fun h hs=>iS ?_
   refine cQ (aA dA) (cQ (aC (b:=p3) (o:=0) hs hxe gC) (cQ gC (cQ (fQ (by omega) dA) (cQ (fQ hl1 dA) (cQ (aC (b:=p) (o:=0) hs hat gC) ?_)))))
   rw[hpl]
   refine aR (fun h1=>?_) (fun h1=>?_)
   ·rw[if_neg (by omega)] at he
    rw[if_neg (by omega),he] at hk
    refine hk _ ?_
    have hs:=hs.cA (aE f 0 (kT C pl)) (dD (4*C.aF.toNat) (mP C pl F))
    exact(kP hs).to
   ·rw[if_pos (by omega)] at he
    refine bW (bE (by omega) (ih (i+1) p (Fi.put x) L2 h (by omega) hck he (fun c w=>?_) hs.to))
    have h2:((Fi.put x) c w).length≤(Fi c w).length+1:=by
     unfold fS.put fS.set;split
     ·rename_i e;rw[e.1,e.2];simp
     ·omega
    have:=hlen c w
    omega
 have loop1:∀(k i:Nat) (h:AH),i+k=l.length→cK C l=cK C (l.drop i)→Hs G h (qF a c l::aE f 0 (kT C pl)::dD (4*C.aF.toNat) (mP C pl F)::M)→
   Dd 157 2 [] Q [(pt f 0 0),(.slice a l.length c),(.slice a l.length c),(I l.length),(I i)] h:=by
  intro k
  induction k with
  |zero=>
   intro i h hi he hs
   rw[List.drop_of_length_le (by omega)] at he
   refine bW (aN (aK (by omega) (bW (bN hs fun p h hs=>bZ ?_))))
   refine loop2 l.length 0 p F M h (by omega) he (by rw[List.drop_zero]) (fun c w=>by have:=hd c w;omega) ?_
   have e:tZ F F=[I 0,I 0,I 0,I 0,I 0,I 0,I 0,I 0,I 0,I 0,I 0,I 0,I 0,I 0,I 0,I 0]:=by
    unfold tZ
    simp only[Int.sub_self]
    rfl
   rw[e];exact hs
  |succ k ih=>
   intro i h hi he hs
   obtain⟨x,hx,hdr⟩:=lF (l:=l) (i:=i) (by omega)
   rw[hdr,Zw] at he
   refine bW (aN (bP (by omega) (bW (tM (l:=l) (a:=a) (c:=c) (enc:=aJ.enc) (e:=175) hs (by decide) (by omega) (by rw[Int.toNat_natCast];exact hx) (bN hs fun p3 h hs=>aZ (b:=p3) hs rfl rfl rfl rfl fun h hs=>aU hs fun r1 h hs=>aB (aA (aQ (b:=f) (o:=0) hs (by decide) (l:=C.enc) rfl rfl (aQ (b:=p3) (o:=0) hs (by decide) (l:=x.enc) rfl rfl ?_))))))))
   refine N.z7 (C:=C) (n:=x) hkd hlm hs fun h hs=>aY (aR (fun h1=>?_) (fun h1=>?_))
   ·rw[if_pos h1] at he
    rw[if_pos (by rw[he];exact h1),he] at hk
    exact hk _ (shut (L2:=aE p3 0 x.enc::M) hs.to)
   ·rw[if_neg h1] at he
    exact bW (bE (by omega) (ih (i+1) h (by omega) he hs.to))
 refine cW (cN (bV (bW (bZ ?_))))
 exact loop1 l.length 0 h (by omega) (by rw[List.drop_zero]) hs
end Go.Proofs.YtajjljbmfdboaaaGreatDoor
end
end
section
namespace Go.Proofs.YtajjljbmfdboaaaGreatDoor
open Go Go.Ab Go.Hm Go.At Go.Mc Go.Nt
theorem Oh {k:Value→Prop} (hk:k (.bool true)):bA (Tv .eql (.pointer none) (.pointer none)) k:=⟨_,rfl,hk⟩
set_option maxRecDepth 100000
attribute [local irreducible] bA Br pN uC uU Dp nH xW nQ Tx gZ mQ rE sP qX lA B8 uK Y9 dw Tv Sl dj Ty Ry U9 Yi lJ pF vW jB copyV jC wY ft Zd Iw lI P0 Wx en qE uG Be Dk Cl zV Xm uE sS lC gK cS cC
variable {G:Bg} {h:AH} {L L' M:List HP} {Q:Value→AH→Prop} {C:bL}
theorem U8 {f:Nat} {F:fS} {x y w:Int} (hC:C.Ok) (hd:∀c w,(F c w).length≤500) (hs:Hs G h L) [m:Has (mF C f) L F L']
  (hk:∀h',Hs G h' (mF C f (fS.take C F x y w).1::L')→Q (.tuple ⟨[.agg ⟨(fS.take C F x y w).2.1.enc⟩,I (fS.take C F x y w).2.2]⟩) h'):Cl Pr K 155 [pt f 0 0,I x,I y,I w] h Q:=by
 have hc:=hC.1
 obtain⟨pl,hs⟩:=yA (m.of hs)
 unfold fS.take at hk
 refine cW (bN (cs:=aJ.zero.enc) hs fun p h hs=>cN (bV (bW (vL (C:=C) (pl:=pl) hC hs ?_))))
 by_cases c1:(0≤x∧x<C.aF)∧(0≤y∧y<4)
 ·rw[if_neg (by omega)] at hk
  rw[if_pos c1]
  refine cN (bV ?_)
  have hkk:x.toNat*4+y.toNat<4*C.aF.toNat:=by omega
  have e1:(x.toNat*4+y.toNat)/4=x.toNat∧(x.toNat*4+y.toNat) % 4=y.toNat:=by omega
  have hs:=Bs hkk (hs.front (dD (4*C.aF.toNat) (mP C pl F)))
  rw[e1.1,e1.2] at hs
  have fin:∀{h:AH} (l:List aJ) (n:aJ) (e:Int),Hs G h (mT C (pl (x.toNat*4+y.toNat)) l::Wv C pl F (x.toNat*4+y.toNat)::aE p 0 aJ.zero.enc::aE f 0 (kT C pl)::L')→(∀h',Hs G h' (mF C f (F.set x.toNat y.toNat l)::L')→Q (.tuple ⟨[.agg ⟨n.enc⟩,I e]⟩) h')→
    bA (rE 0 (.tuple ⟨[.agg ⟨n.enc⟩,I e]⟩)) fun v3=>bA (rE 1 (.tuple ⟨[.agg ⟨n.enc⟩,I e]⟩)) fun v4=>bA (uU h 9 (pt p 0 0) v3) fun h5=>bA (uC h5 9 (pt p 0 0)) fun v6=>Q (.tuple ⟨[v6,v4]⟩) h5:=by
   intro h l n e hs hq
   refine aG rfl (aG rfl (aZ (b:=p) hs rfl rfl rfl rfl fun h hs=>aQ (b:=p) (o:=0) hs (by decide) (l:=n.enc) rfl rfl (hq _ ?_)))
   have hs:=Gw hkk (hs.cA (mT C (pl (x.toNat*4+y.toNat)) l) (Wv C pl F (x.toNat*4+y.toNat)))
   rw[e1.1,e1.2] at hs
   have hs:=hs.cA (aE f 0 (kT C pl)) (dD (4*C.aF.toNat) (mP C pl (F.set x.toNat y.toNat l)))
   exact(kP hs).to
  dsimp only at hk
  refine Bz (C:=C) (l:=F x.toNat y.toNat) (by have:=hd x.toNat y.toNat;omega) hs (fun hl h hs=>?_) (fun hl h hs=>?_)
  ·rw[if_pos hl] at hk
   refine fin _ _ _ hs fun h hs=>hk _ ?_
   have e2:F.set x.toNat y.toNat (F x.toNat y.toNat)=F:=by
    funext c w;unfold fS.set;split
    ·rename_i e;rw[e.1,e.2]
    ·rfl
   rw[e2] at hs
   exact hs
  ·rw[if_neg hl] at hk
   exact fin _ _ _ hs hk
 ·rw[if_pos c1] at hk
  rw[if_neg c1]
  refine Oh (eQ (aH (c:=aJ.zero.enc) rfl ?_))
  refine aZ (b:=p) hs rfl rfl rfl rfl fun h hs=>?_
  refine aQ (b:=p) (o:=0) hs (by decide) (l:=aJ.zero.enc) rfl rfl (hk _ ?_)
  exact kP hs.tail
theorem Se {f:Nat} {F:fS} {x y:Nat} (hC:C.Ok) (hd:∀c w,(F c w).length≤500) (hx:(x:Int)<C.aF) (hy:y<4) (hs:Hs G h L) [m:Has (mF C f) L F L']
  (hk:∀q h',Hs G h' (sw q (F x y)::mF C f F::L')→Q (.func (.func 224) #[] #[pt q 0 0]) h'):Cl Pr K 55 [pt f 0 0,I x,I y] h Q:=by
 have hc:=hC.1
 obtain⟨pl,hs⟩:=yA (m.of hs)
 refine cW (vL (C:=C) (pl:=pl) hC hs ?_)
 rw[if_pos (by omega)]
 have hkk:x*4+y<4*C.aF.toNat:=by omega
 have e1:(x*4+y)/4=x∧(x*4+y) % 4=y:=by omega
 have hs:=Bs hkk hs.kA
 rw[show((x:Int)).toNat*4+((y:Int)).toNat=x*4+y by omega]
 rw[e1.1,e1.2] at hs
 refine Y6 (C:=C) (l:=F x y) (by have:=hd x y;omega) hs fun q h hs=>hk q _ ?_
 have hs:=Gw hkk (hs.cA (mT C (pl (x*4+y)) (F x y)) (Wv C pl F (x*4+y)))
 rw[e1.1,e1.2] at hs
 have e2:F.set x y (F x y)=F:=by
  funext c w;unfold fS.set;split
  ·rename_i e;rw[e.1,e.2]
  ·rfl
 rw[e2] at hs
 have hs:=hs.cA (aE f 0 (kT C pl)) (dD (4*C.aF.toNat) (mP C pl F))
 exact(kP hs).to
def sB (C:bL) (pl:Nat→Nat) (n:Nat):List Value:=C.enc++(List.range 16).map fun k=>if k<n then pt (pl k) 0 0 else .pointer none
theorem Sm {pl:Nat→Nat} {n p:Nat} (hn:n<16):dL (sB C pl n) (7+n) [pt p 0 0]=sB C (bT pl n p) (n+1):=by
 unfold sB
 have e:∀(A B:List Value) (j:Nat) (v:List Value),j+v.length≤B.length→dL (A++B) (A.length+j) v=A++dL B j v:=by
  intro A
  induction A with
  |nil=>intro B j v hj;simp
  |cons x A ih=>intro B j v hj;rw[List.cons_append,List.length_cons,show A.length+1+j=(A.length+j)+1 by omega];show x::dL (A++B) (A.length+j) v=_;rw[ih B j v hj];rfl
 rw[show 7+n=C.enc.length+n by simp[bL.enc],e _ _ _ _ (by simp;omega),Jx (_α:=Nat) hn]
 congr 1
 refine List.map_congr_left fun k _=>?_
 by_cases h1:k=n
 ·subst h1;rw[if_pos rfl,if_pos (by omega),gP]
 ·rw[if_neg h1]
  by_cases h2:k<n
  ·rw[if_pos h2,if_pos (by omega),yZ h1]
  ·rw[if_neg h2,if_neg (by omega)]
theorem Cc {pl:Nat→Nat} {n:Nat}:(sB C pl n).length=23:=by unfold sB;simp[bL.enc]
theorem Yd {n p:Nat} {pl:Nat→Nat} {F:fS} (hs:Hs G h (mT C p (F (n/4) (n % 4))::dD n (mP C pl F)::L)):Hs G h (dD (n+1) (mP C (bT pl n p) F)::L):=by
 refine Hs.Si ?_
 have e1:mP C (bT pl n p) F n=mT C p (F (n/4) (n % 4)):=by unfold mP;rw[gP]
 rw[e1]
 have hs:=hs.kA
 have hs:=qP (g:=mP C (bT pl n p) F) (fun j hj=>by unfold mP;rw[yZ (by omega)]) hs
 exact hs.kA
theorem Zh (hC:C.Ok) (hlm:Ob G 0 fB) (hs:Hs G h L) (hk:∀f h',Hs G h' (mF C f (fun _ _=>[])::L)→Q (.tuple ⟨[pt f 0 0,I 0]⟩) h'):Cl Pr K 88 [.agg ⟨C.enc⟩] h Q:=by
 have hc:=hC.1
 refine cW (dI hs fun p h hs=>aQ (b:=p) (o:=0) hs (by decide) (l:=C.enc) rfl rfl (lK hlm hs fun h hs=>?_))
 rw[if_pos hC]
 refine aY (aK (by omega) (bW (aQ (b:=p) (o:=0) hs (by decide) (l:=C.enc) rfl rfl (aH (c:=sB C (fun _=>0) 0) rfl (dI hs fun f h hs=>aA (aC (b:=p) (o:=0) hs rfl ?_))))))
 have inner:∀(k w x:Nat) (pl:Nat→Nat) (h:AH),w+k=4→(x:Int)<C.aF→(∀(pl:Nat→Nat) (h:AH),Hs G h (aE f 0 (sB C pl (4*x+4))::aE p 0 C.enc::dD (4*x+4) (mP C pl fun _ _=>[])::L)→Dd 88 6 [] Q [(pt p 0 0),(pt f 0 0),(I C.aF),(I x)] h)→
   Hs G h (aE f 0 (sB C pl (4*x+w))::aE p 0 C.enc::dD (4*x+w) (mP C pl fun _ _=>[])::L)→Dd 88 4 [] Q [(pt p 0 0),(pt f 0 0),(I x),(I C.aF),(I x),(I w)] h:=by
  intro k
  induction k with
  |zero=>
   intro w x pl h hw hx hq hs
   have:w=4:=by omega
   subst this
   exact bW (aN (aK (by omega) (hq pl h hs)))
  |succ k ih=>
   intro w x pl h hw hx hq hs
   refine bW (aN (bP (by omega) (bW (aA (aC (b:=p) (o:=0) hs rfl (bx hC hs fun q h hs=>aG rfl (aG rfl (aY (aK (by omega) (bW (aB (aA (fQ (by omega) (fQ (by omega) ?_))))))))))))))
   refine bI (b:=f) (o:=0) hs rfl (by rw[Cc];exact Nat.ble_eq_true_of_le (by simp;omega)) rfl (by rw[Cc];rfl) fun h hs=>bE (by omega) ?_
   rw[show 0+7+x*4+w*1=7+(4*x+w) by omega,Sm (by omega)] at hs
   refine ih (w+1) x (bT pl (4*x+w) q) h (by omega) hx hq ?_
   have hs:=hs.cA (mT C q []) (dD (4*x+w) (mP C pl fun _ _=>[]))
   have hs:=Yd (F:=fun _ _=>[]) hs
   exact(show Hs G h (aE f 0 (sB C (bT pl (4*x+w) q) (4*x+(w+1)))::aE p 0 C.enc::dD (4*x+(w+1)) (mP C (bT pl (4*x+w) q) fun _ _=>[])::L) from hs.to)
 have outer:∀(k x:Nat) (pl:Nat→Nat) (h:AH),x+k=C.aF.toNat→Hs G h (aE f 0 (sB C pl (4*x))::aE p 0 C.enc::dD (4*x) (mP C pl fun _ _=>[])::L)→Dd 88 2 [] Q [(pt p 0 0),(pt f 0 0),(I C.aF),(I x)] h:=by
  intro k
  induction k with
  |zero=>
   intro x pl h hx hs
   refine bW (aN (aK (by omega) (hk f h ?_)))
   have e:x=C.aF.toNat:=by omega
   subst e
   have hs:Hs G h (aE f 0 (kT C pl)::aE p 0 C.enc::dD (4*C.aF.toNat) (mP C pl fun _ _=>[])::L):=hs
   exact(kP (show Hs G h (aE f 0 (kT C pl)::dD (4*C.aF.toNat) (mP C pl fun _ _=>[])::L) from hs.to))
  |succ k ih=>
   intro x pl h hx hs
   refine bW (aN (bP (by omega) (bW ?_)))
   refine inner 4 0 x pl h (by omega) (by omega) (fun pl h hs=>bW (bE (by omega) (ih (x+1) pl h (by omega) ?_))) hs
   exact(show Hs G h (aE f 0 (sB C pl (4*(x+1)))::aE p 0 C.enc::dD (4*(x+1)) (mP C pl fun _ _=>[])::L) from by rw[show 4*(x+1)=4*x+4 by omega];exact hs)
 have hs:=Hs.Tl (f:=mP C (fun _=>0) fun _ _=>[]) hs
 exact outer C.aF.toNat 0 (fun _=>0) h (by omega) (show Hs G h (aE f 0 (sB C (fun _=>0) 0)::aE p 0 C.enc::dD 0 (mP C (fun _=>0) fun _ _=>[])::L) from hs.to)
end Go.Proofs.YtajjljbmfdboaaaGreatDoor
end
section
namespace Go.Proofs.YtajjljbmfdboaaaGreatDoor
open Go Go.Ab Go.Hm Go.At Go.Mc Go.Nt
theorem aAb {n sz i:Nat} {l m:List Value} {k:Value→Prop} (hi:i<n) (hl:i*sz+sz≤l.length) (hm:(l.drop (i*sz)).take sz=m) (hk:k (.agg ⟨m⟩)):bA (Wx n sz (.agg ⟨l⟩) (I i)) k:=
 ⟨.agg ⟨m⟩,by unfold Wx;simp only;rw[if_pos ⟨by omega,by omega,by simpa using hl⟩];simp[hm],hk⟩
set_option maxRecDepth 100000
attribute [local irreducible] bA Br pN uC uU Dp nH xW nQ Tx gZ mQ rE sP qX lA B8 uK Y9 dw Tv Sl dj Ty Ry U9 Yi lJ pF vW jB copyV jC wY ft Zd Iw lI P0 Wx en qE uG Be Dk Cl zV Xm uE sS lC gK cS cC
variable {G:Bg} {h:AH} {L L' M:List HP} {Q:Value→AH→Prop} {C:bL}
def jT (C:bL) (pl:Nat→Nat):List Value:=(List.range 16).map fun k=>if k<4*C.aF.toNat then pt (pl k) 0 0 else .pointer none
theorem Bj {pl:Nat→Nat}:(jT C pl).length=16:=by simp[jT]
theorem ld {pl:Nat→Nat} {x w:Nat} (hx:x<4) (hw:w<4):(((jT C pl).drop (x*4)).take 4)[w]?=some (if x*4+w<4*C.aF.toNat then pt (pl (x*4+w)) 0 0 else .pointer none):=by
 rw[List.getElem?_take_of_lt hw,List.getElem?_drop]
 unfold jT
 rw[List.getElem?_map,List.getElem?_range (by omega)]
 rfl
theorem Y8 (hk:Q (.pointer none) h):Cl Pr K 141 [.pointer none] h Q:=
 cW (Oh (eQ hk))
theorem gf {pl:Nat→Nat} {n j:Nat} (hn:n≤j) (hj:j<16):dL (sB C pl n) (7+j) [.pointer none]=sB C pl n:=by
 unfold sB
 have e:∀(A B:List Value) (j:Nat) (v:List Value),j+v.length≤B.length→dL (A++B) (A.length+j) v=A++dL B j v:=by
  intro A
  induction A with
  |nil=>intro B j v hj;simp
  |cons x A ih=>intro B j v hj;rw[List.cons_append,List.length_cons,show A.length+1+j=(A.length+j)+1 by omega];show x::dL (A++B) (A.length+j) v=_;rw[ih B j v hj];rfl
 rw[show 7+j=C.enc.length+j by simp[bL.enc],e _ _ _ _ (by simp;omega),Jx (_α:=Nat) hj]
 congr 1
 refine List.map_congr_left fun k _=>?_
 by_cases h1:k=j
 ·rw[if_pos h1,if_neg (by omega)]
 ·rw[if_neg h1]
theorem T5 {f:Nat} {F:fS} (hC:C.Ok) (hd:∀c w,(F c w).length≤500) (hs:Hs G h L) [m:Has (mF C f) L F L'] (hk:∀g h',Hs G h' (mF C g F::mF C f F::L')→Q (pt g 0 0) h'):Cl Pr K 78 [pt f 0 0] h Q:=by
 have hc:=hC.1
 obtain⟨pl,hs⟩:=yA (m.of hs)
 refine cW (cN (bV (bW (aB (aA (aQ (b:=f) (o:=0) hs (by decide) (l:=C.enc) rfl rfl (aH (c:=sB C (fun _=>0) 0) rfl (dI hs fun g h hs=>aB (aA (aQ (b:=f) (o:=0) hs (by decide) (l:=jT C pl) ?_ Bj ?_))))))))))
 ·unfold kT jT
  rw[show 0+7=C.enc.length by simp[bL.enc],List.drop_left,List.take_of_length_le (by simp)]
 let N:=4*C.aF.toNat
 have inner:∀(k w x:Nat) (pl2:Nat→Nat) (L2:List HP) (h:AH),[Sub L2 L']→w+k=4→x<4→(∀(pl2:Nat→Nat) (h:AH),Hs G h (aE g 0 (sB C pl2 (min N (4*x+4)))::dD (min N (4*x+4)) (mP C pl2 F)::aE f 0 (kT C pl)::dD N (mP C pl F)::L2)→Dd 78 6 [] Q [(pt g 0 0),(.agg ⟨jT C pl⟩),(I x)] h)→
   Hs G h (aE g 0 (sB C pl2 (min N (4*x+w)))::dD (min N (4*x+w)) (mP C pl2 F)::aE f 0 (kT C pl)::dD N (mP C pl F)::L2)→Dd 78 4 [] Q [(pt g 0 0),(I x),(.agg ⟨jT C pl⟩),(I x),(.agg ⟨((jT C pl).drop (x*4)).take 4⟩),(I w)] h:=by
  intro k
  induction k with
  |zero=>
   intro w x pl2 L2 h _ hw hx hq hs
   have:w=4:=by omega
   subst this
   exact bW (aN (aK (by omega) (hq pl2 h hs)))
  |succ k ih=>
   intro w x pl2 L2 h _ hw hx hq hs
   refine bW (aN (bP (by omega) (bW (Yf (by omega) (ld hx (by omega)) (aU hs fun r h hs=>?_)))))
   have fin:∀(v:Value) (pl3:Nat→Nat) (h:AH),eF v=true→Cv v [v]→dL (sB C pl2 (min N (4*x+w))) (7+(4*x+w)) [v]=sB C pl3 (min N (4*x+(w+1)))→
     Hs G h (aE g 0 (sB C pl2 (min N (4*x+w)))::dD (min N (4*x+(w+1))) (mP C pl3 F)::aE f 0 (kT C pl)::dD N (mP C pl F)::L2)→
     bA (mQ (pt g 0 0)) fun v4=>bA (gZ 7 v4) fun v5=>bA (pF 4 4 v5 (I x)) fun v6=>bA (pF 4 1 v6 (I w)) fun v7=>bA (uU h 1 v7 v) fun h8=>(mS (pt g 0 0) (pt g 0 0)=true)∧((mS (I x) (I x)=true)∧((mS (I w) (I w)=true)∧((bA (mQ (pt g 0 0)) fun v9=>mS v9 v4=true)∧((bA (gZ 7 v4) fun v10=>mS v10 v5=true)∧((bA (pF 4 4 v5 (I x)) fun v11=>mS v11 v6=true)∧(bA (uK .add (I w) (I 1)) fun v12=>Dd 78 4 [] Q [(pt g 0 0),(I x),(.agg ⟨jT C pl⟩),(I x),(.agg ⟨((jT C pl).drop (x*4)).take 4⟩),v12] h8)))))):=by
    intro v pl3 h hv hcv he hs
    refine aB (aA (fQ hx (fQ (by omega) ?_)))
    refine bI (b:=g) (o:=0) hs rfl (by rw[Cc];exact Nat.ble_eq_true_of_le (by simp;omega)) (by simp[hv]) (by rw[Cc];rfl) fun h hs=>?_
    rw[show 0+7+x*4+w*1=7+(4*x+w) by omega,he] at hs
    refine cQ dA (cQ gC (cQ gC (cQ (aB dA) (cQ (aA dA) (cQ (fQ hx dA) (bE (by omega) ?_))))))
    exact ih (w+1) x pl3 L2 h (by omega) hx hq hs
   by_cases c1:x*4+w<4*C.aF.toNat
   ·rw[if_pos c1]
    have hb:dD N (mP C pl F)=dD (4*C.aF.toNat) (mP C pl F):=rfl
    have hs:=Bs c1 (hs.front (dD N (mP C pl F)))
    refine Vm (C:=C) (l:=F ((x*4+w)/4) ((x*4+w) % 4)) (by have:=hd ((x*4+w)/4) ((x*4+w) % 4);omega) hs fun q h hs=>?_
    have hs:=Gw c1 (hs.cA (mT C (pl (x*4+w)) (F ((x*4+w)/4) ((x*4+w) % 4))) (Wv C pl F (x*4+w)))
    have e2:F.set ((x*4+w)/4) ((x*4+w) % 4) (F ((x*4+w)/4) ((x*4+w) % 4))=F:=by
     funext c w;unfold fS.set;split
     ·rename_i e;rw[e.1,e.2]
     ·rfl
    rw[e2] at hs
    have hm1:min N (4*x+w)=4*x+w:=by show min (4*C.aF.toNat) _=_;omega
    have hm2:min N (4*x+(w+1))=4*x+w+1:=by show min (4*C.aF.toNat) _=_;omega
    rw[hm1] at hs
    rw[show x*4+w=4*x+w by omega] at hs
    have hs:=hs.cA (mT C q (F ((4*x+w)/4) ((4*x+w) % 4))) (dD (4*x+w) (mP C pl2 F))
    have hs:=Yd hs
    refine fin (pt q 0 0) (bT pl2 (4*x+w) q) h rfl inferInstance ?_ ?_
    ·rw[hm1,hm2,Sm (by omega)]
    ·rw[hm1,hm2];exact hs.to
   ·rw[if_neg c1]
    have hm1:min N (4*x+w)=N:=by show min (4*C.aF.toNat) _=4*C.aF.toNat;omega
    have hm2:min N (4*x+(w+1))=N:=by show min (4*C.aF.toNat) _=4*C.aF.toNat;omega
    refine Y8 (fin (.pointer none) pl2 h rfl inferInstance ?_ ?_)
    ·rw[hm1,hm2];exact gf (by show 4*C.aF.toNat≤_;omega) (by omega)
    ·rw[hm1] at hs
     rw[hm1,hm2];exact hs.to
 have outer:∀(k x:Nat) (pl2:Nat→Nat) (L2:List HP) (h:AH),[Sub L2 L']→x+k=4→Hs G h (aE g 0 (sB C pl2 (min N (4*x)))::dD (min N (4*x)) (mP C pl2 F)::aE f 0 (kT C pl)::dD N (mP C pl F)::L2)→Dd 78 2 [] Q [(pt g 0 0),(.agg ⟨jT C pl⟩),(I x)] h:=by
  intro k
  induction k with
  |zero=>
   intro x pl2 L2 h _ hx hs
   refine bW (aN (aK (by omega) (hk g h ?_)))
   have hm1:min N (4*x)=N:=by show min (4*C.aF.toNat) _=4*C.aF.toNat;omega
   rw[hm1] at hs
   have hs:Hs G h (aE g 0 (kT C pl2)::dD (4*C.aF.toNat) (mP C pl2 F)::aE f 0 (kT C pl)::dD (4*C.aF.toNat) (mP C pl F)::L2):=hs
   have hs:=kP hs
   have hs:=hs.cA (aE f 0 (kT C pl)) (dD (4*C.aF.toNat) (mP C pl F))
   have hs:=kP hs
   exact hs.to
  |succ k ih=>
   intro x pl2 L2 h _ hx hs
   refine bW (aN (bP (by omega) (bW (aAb (by omega) (by rw[Bj];omega) rfl (bN hs fun p h hs=>?_)))))
   have hl4:(((jT C pl).drop (x*4)).take 4).length=4:=by rw[List.length_take,List.length_drop,Bj];omega
   have hcb:(((jT C pl).drop (x*4)).take 4).all eF=true:=by
    refine List.all_eq_true.2 fun v hv=>?_
    have:=List.mem_of_mem_drop (List.mem_of_mem_take hv)
    unfold jT at this
    obtain⟨k,_,rfl⟩:=List.mem_map.1 this
    split<;>rfl
   refine aZ (b:=p) hs rfl rfl hl4 hcb fun h hs=>aQ (b:=p) (o:=0) hs (by decide) (l:=((jT C pl).drop (x*4)).take 4) (by rw[List.drop_zero];exact List.take_of_length_le (by omega)) hl4 ?_
   refine inner 4 0 x pl2 (aE p 0 (((jT C pl).drop (x*4)).take 4)::L2) h (by omega) (by omega) (fun pl2 h hs=>bW (bE (by omega) (ih (x+1) pl2 (aE p 0 (((jT C pl).drop (x*4)).take 4)::L2) h (by omega) (by rw[show 4*(x+1)=4*x+4 by omega];exact hs)))) ?_
   exact hs.to
 have hs:=Hs.Tl (f:=mP C (fun _=>0) F) hs
 refine outer 4 0 (fun _=>0) L' h (by omega) ?_
 rw[show min N (4*0)=0 by omega]
 exact hs.to
end Go.Proofs.YtajjljbmfdboaaaGreatDoor
end
section
open Go Go.Ab
attribute [local irreducible] bA Br pN uC uU Dp nH xW nQ Tx gZ mQ rE sP qX lA B8 uK Y9 dw Tv Sl dj Ty Ry U9 Yi lJ pF vW jB copyV jC wY ft Zd Iw lI P0 Wx en qE uG Be Dk Cl zV Xm uE sS lC gK cS cC
section
namespace Go.Proofs.YtajjljbmfdboaaaGreatDoor
open Go Go.Ab Go.Hm Go.At Go.Is Go.Mc
instance:Fx Ins.enc 4:=⟨fun _=>rfl,fun _=>rfl⟩
set_option maxRecDepth 100000
variable {G:Bg} {h:AH} {L L' M:List HP} {Q:Value→AH→Prop} {s:aX} {i p:Nat}
abbrev Qk (a:Option Addr) (c:Nat) (l:List Ins):HP:=ls Ins.enc 4 86 a c l
def qK (i:Nat) (s:aX) (a:Option Addr) (c:Nat):List Value:=s.core++[I i,.slice a s.prog.length c]
def kI (i:Nat) (p:Nat) (s:aX):HP:=rY fun x:Option Addr×Nat=>sp [aE p 0 (qK i s x.1 x.2),Qk x.1 x.2 s.prog]
theorem pA (hs:Hs G h (kI i p s::L)):∃a c,Hs G h (aE p 0 (qK i s a c)::Qk a c s.prog::L):=by
 obtain⟨⟨a,c⟩,hs⟩:=hs.zE
 exact⟨a,c,hs.xA⟩
theorem kR (p i:Nat) (s:aX) {a:Option Addr} {c:Nat} {cs:List Value} {l:List Ins} {L1 L2:List HP} (hs:Hs G h L) [m:Has (aE p 0) L cs L1] [m2:Has (Qk a c) L1 l L2] (h1:cs=qK i s a c) (h2:l=s.prog):Hs G h (kI i p s::L2):=by
 subst h1;subst h2
 exact Hs.uH (A:=fun x:Option Addr×Nat=>sp [aE p 0 (qK i s x.1 x.2),Qk x.1 x.2 s.prog]) (a,c) (Hs.pack (A:=[_,_]) (hs.perm (m.perm.trans (m2.perm.cons _))))
theorem aBd {a:Option Addr} {c:Nat} {k:Int} (hk:0≤k∧k<4):(qK i s a c)[0+0+0+k.toNat*1]?=some (I (s.cZ k.toNat)):=by
 have:k=0∨k=1∨k=2∨k=3:=by omega
 rcases this with rfl|rfl|rfl|rfl<;>rfl
theorem wu {a:Option Addr} {c:Nat} {k v:Int} (hk:0≤k∧k<4):dL (qK i s a c) (0+0+0+k.toNat*1) [I v]=qK i (s.dN k v) a c:=by
 have:k=0∨k=1∨k=2∨k=3:=by omega
 rcases this with rfl|rfl|rfl|rfl<;>rfl
theorem xB {a:Option Addr} {c:Nat} {k:Int} {q:Value→Prop} (hs:Hs G h L) [m:Has (aE p 0) L (qK i s a c) L'] (hk:0≤k∧k<4) (hq:q (I (s.cZ k.toNat))):bA (mQ (pt p 0 0)) fun v4=>bA (gZ 0 v4) fun v5=>bA (gZ 0 v5) fun v6=>bA (pF 4 1 v6 (I k)) fun v7=>bA (pN h v7) q:=
 aB (aA (aA (eZ hk.1 hk.2 (aC (b:=p) (o:=0) hs (aBd hk) hq))))
theorem A8 {a:Option Addr} {c:Nat} {k v:Int} {q:AH→Prop} (hs:Hs G h L) [m:Has (aE p 0) L (qK i s a c) L'] (hk:0≤k∧k<4) (hq:∀h',Hs G h' (aE p 0 (qK i (s.dN k v) a c)::L')→q h'):bA (mQ (pt p 0 0)) fun v4=>bA (gZ 0 v4) fun v5=>bA (gZ 0 v5) fun v6=>bA (pF 4 1 v6 (I k)) fun v7=>bA (uU h 1 v7 (I v)) q:=by
 refine aB (aA (aA (eZ hk.1 hk.2 ?_)))
 have hl:(qK i s a c).length=9:=rfl
 refine bI (b:=p) (o:=0) hs rfl (by rw[hl];exact Nat.ble_eq_true_of_le (by simp;omega)) rfl rfl fun h hs=>?_
 rw[wu hk] at hs
 exact hq _ hs
theorem Y0 {a:Option Addr} {c:Nat} {x:Int} {cs:List Value} (hx:0≤x) (hc8:cs[8]?=some (.slice a s.prog.length c)) (hs:Hs G h L) [m:Has (aE p 0) L cs L'] [m2:Has (Qk a c) L' s.prog M] (hk:∀h',Hs G h' L→Q (.bool (Cr s.prog x)) h'):Cl Pr K 100 [pt p 0 0,I x] h Q:=by
 have hs2:Hs G h (aE p 0 cs::Qk a c s.prog::M):=hs.perm (m.perm.trans (m2.perm.cons _))
 unfold Cr at hk
 refine cW (aN (aK (by omega) (aB (aA (aC (b:=p) (o:=0) hs hc8 (bZ (dR (aR (fun h1=>?_) (fun h1=>?_)))))))))
 ·rw[if_pos h1] at hk;exact hk _ hs
 ·rw[if_neg h1] at hk
  refine aB (aA (aC (b:=p) (o:=0) hs hc8 (nw (l:=s.prog) (a:=a) (c:=c) (enc:=Ins.enc) (e:=86) (x:=yD s.prog x) hs2 hx ?_ rfl (bH ?_))))
  ·unfold yD;rw[List.getD_eq_getElem?_getD,List.getElem?_eq_getElem (by omega)];rfl
  ·exact hk _ hs
theorem Gc {x:Int} (hx:0≤x) (hs:Hs G h L) [m:Has (kI i p) L s L'] (hk:∀h',Hs G h' (kI i p (s.nT x)::L')→Q (.tuple ⟨[]⟩) h'):Cl Pr K 98 [pt p 0 0,I x] h Q:=by
 obtain⟨a,c,hs⟩:=pA (m.of hs)
 refine cW (aB (aA (aA (bI (b:=p) (o:=0) hs rfl rfl rfl rfl fun h hs=>?_))))
 refine Y0 (s:=s) (a:=a) (c:=c) hx rfl hs fun h hs=>aB (aA (aA (bI (b:=p) (o:=0) hs rfl rfl rfl rfl fun h hs=>hk _ ?_)))
 exact kR p i (s.nT x) (a:=a) (c:=c) hs rfl rfl
theorem Q5 {x:Ins} {a:Option Addr} {c:Nat} (hs:Hs G h L) [m:Has (aE p 0) L (qK i s a c) L'] (hk:∀h',Hs G h' L→Q (.agg ⟨(aX.ev s i x 0 0 0).enc⟩) h'):Cl Pr K 99 [pt p 0 0,.agg ⟨x.enc⟩] h Q:=by
 refine cW (dI hs fun q h hs=>bN hs fun r h hs=>aU hs fun rr h hs=>?_)
 refine aB (aA (aC (b:=p) (o:=0) hs rfl (aB (aA (aA (aC (b:=p) (o:=0) hs rfl (aA (aC (b:=q) (o:=0) hs rfl (aB (aA (aA (aC (b:=p) (o:=0) hs rfl (aH (c:=(aX.ev s i x 0 0 0).enc) rfl ?_)))))))))))))
 refine aZ (b:=r) hs rfl rfl rfl rfl fun h hs=>aQ (b:=r) (o:=0) hs (by decide) (l:=(aX.ev s i x 0 0 0).enc) rfl rfl (hk _ hs.to)
def aA2:Ins:=⟨0,0,0,0⟩
theorem Gq (ho:s.Ok) (hs:Hs G h L) [m:Has (kI i p) L s L'] (hk:∀h',Hs G h' (kI i p s::L')→Q (if s.over then .tuple ⟨[.agg ⟨aA2.enc⟩,.bool false]⟩ else .tuple ⟨[.agg ⟨(yD s.prog s.at').enc⟩,.bool true]⟩) h'):Cl Pr K 39 [pt p 0 0] h Q:=by
 obtain⟨a,c,hs⟩:=pA (m.of hs)
 refine cW (bN hs fun q h hs=>cN (bV (aB (aA (aA (aC (b:=p) (o:=0) hs rfl (Y0 (s:=s) (a:=a) (c:=c) ho.1 rfl hs fun h hs=>?_)))))))
 rw[←ho.2.2.1]
 refine cU (fun h1=>?_) (fun h1=>?_)
 ·rw[h1,if_pos rfl] at hk
  refine aH (c:=aA2.enc) rfl (aZ (b:=q) hs rfl rfl rfl rfl fun h hs=>aQ (b:=q) (o:=0) hs (by decide) (l:=aA2.enc) rfl rfl (hk _ ?_))
  exact(kR p i s (a:=a) (c:=c) hs rfl rfl).to
 ·rw[h1] at hk
  have hlt:=N2 (p:=s.prog) (a:=s.at') (by rw[←ho.2.2.1];exact h1)
  have h0:=ho.1
  refine aU hs fun rr h hs=>aB (aA (aC (b:=p) (o:=0) hs rfl (aB (aA (aA (aC (b:=p) (o:=0) hs rfl ?_))))))
  refine tM (l:=s.prog) (a:=a) (c:=c) (enc:=Ins.enc) (e:=86) (x:=yD s.prog s.at') hs (by decide) h0 ?_ ?_
  ·unfold yD;rw[List.getD_eq_getElem?_getD,List.getElem?_eq_getElem (by omega)];rfl
  refine aZ (b:=q) hs rfl rfl rfl rfl fun h hs=>aQ (b:=q) (o:=0) hs (by decide) (l:=(yD s.prog s.at').enc) rfl rfl (hk _ ?_)
  exact(kR p i s (a:=a) (c:=c) hs rfl rfl).to
theorem Li {x:Int} (hk:Q (.bool (I7 x)) h):Cl Pr K 50 [I x] h Q:=by
 unfold I7 at hk
 refine cW (bH (aR (fun h1=>?_) (fun h1=>bH (aR (fun h2=>?_) (fun h2=>bH ?_)))))
 ·rw[decide_eq_true (by omega)] at hk;exact hk
 ·rw[decide_eq_true (by omega)] at hk;exact hk
 ·rw[show decide (x=3∨x=4∨x=5)=decide (x=5) from decide_eq_decide.2 (by omega)] at hk;exact hk
end Go.Proofs.YtajjljbmfdboaaaGreatDoor
end
section
namespace Go.Proofs.YtajjljbmfdboaaaGreatDoor
open Go Go.Ab Go.Hm Go.At Go.Is Go.Mc
theorem yW {s:aX} (ho:s.Ok) (h:s.over=false):Fits (yD s.prog s.at') s.prog.length:=
 Rn (ho.2.2.2.2 _ (P4 ho.1 (N2 (by rw[←ho.2.2.1];exact h))))
set_option maxRecDepth 100000
variable {G:Bg} {h:AH} {L L' M:List HP} {Q:Value→AH→Prop} {s:aX} {i p:Nat}
theorem jP {v:Ev} {x:Int} {q2 q6:Nat} {z:List Value} {b:Value} (hz:z.length=7) (hx:0≤x) (hs:Hs G h (kI i p s::aE q6 0 v.enc::aE q2 0 z::L)) (hk:∀h',Hs G h' (kI i p (s.nT x)::L)→Q (.tuple ⟨[.agg ⟨v.enc⟩,b]⟩) h'):
  Cl Pr K 98 [pt p 0 0,I x] h fun _ h15=>bA (uC h15 7 (pt q6 0 0)) fun v16=>bA (uU h15 7 (pt q2 0 0) v16) fun h17=>bA (uC h17 7 (pt q2 0 0)) fun v18=>Q (.tuple ⟨[v18,b]⟩) h17:=by
 refine Gc (i:=i) (s:=s) hx hs fun h hs=>aQ (b:=q6) (o:=0) hs (by decide) (l:=v.enc) rfl rfl (aZ (b:=q2) hs (by rw[hz];rfl) rfl rfl rfl fun h hs=>aQ (b:=q2) (o:=0) hs (by decide) (l:=v.enc) rfl rfl (hk _ hs.to))
theorem kn (ho:s.Ok) (hs:Hs G h L) [m:Has (kI i p) L s L']
  (hk:∀h',Hs G h' (kI i p (match aX.oS s i with|some r=>r.1|none=>s)::L')→Q (match aX.oS s i with|some r=> .tuple ⟨[.agg ⟨r.2.enc⟩,.bool true]⟩|none=> .tuple ⟨[.agg ⟨Dv.enc⟩,.bool false]⟩) h'):Cl Pr K 37 [pt p 0 0] h Q:=by
 have hs:=m.of hs
 have h0:=ho.1
 unfold aX.oS aX.next? at hk
 refine cW (bN (cs:=Dv.enc) hs fun q2 h hs=>Gq (i:=i) (s:=s) ho hs fun h hs=>?_)
 cases hov:s.over with
 |true=>
  simp only[hov,if_true] at hk ⊢
  refine aG rfl (aG rfl (bN hs fun q4 h hs=>aZ (b:=q4) hs rfl rfl rfl rfl fun h hs=>bS (eQ (aH (c:=Dv.enc) rfl ?_))))
  refine aZ (b:=q2) hs rfl rfl rfl rfl fun h hs=>aQ (b:=q2) (o:=0) hs (by decide) (l:=Dv.enc) rfl rfl (hk _ hs.to)
 |false=>
  have hf:=yW ho hov
  simp only[hov,Bool.false_eq_true,if_false] at hk ⊢
  generalize hx:yD s.prog s.at'=x at hk hf
  refine aG rfl (aG rfl (bN hs fun q4 h hs=>aZ (b:=q4) hs rfl rfl rfl rfl fun h hs=>bS (bV ?_)))
  obtain⟨a,c,hs⟩:=pA (hs.front (kI i p s))
  refine bW (aQ (b:=q4) (o:=0) hs (by decide) (l:=x.enc) rfl rfl (Q5 (a:=a) (c:=c) (s:=s) hs fun h hs=>bN hs fun q6 h hs=>aZ (b:=q6) hs rfl rfl rfl rfl fun h hs=>?_))
  refine aB (aA (aA (aC (b:=p) (o:=0) hs rfl (bE (by have:=ho.2.1;omega) (aA (aC (b:=q4) (o:=0) hs rfl ?_))))))
  have hs:Hs G h (aE q4 0 x.enc::aE q6 0 (aX.ev s i x 0 0 0).enc::aE q2 0 Dv.enc::aE p 0 (qK i s a c)::Qk a c s.prog::L'):=hs.to
  have shut:∀{h:AH} {s':aX} {M:List HP} {v:Ev},s'.prog=s.prog→Hs G h (aE q6 0 v.enc::aE q2 0 Dv.enc::aE p 0 (qK i s' a c)::Qk a c s.prog::L')→Hs G h (kI i p s'::aE q6 0 v.enc::aE q2 0 Dv.enc::L'):=by
   intro h s' M v hp hs
   exact kR p i s' (a:=a) (c:=c) hs rfl hp.symm
  refine bH (aR (fun c1=>?_) (fun c1=>bW (bH (aR (fun c2=>?_) (fun c2=>bW (bH (aR (fun c6=>?_) (fun c6=>bW (bH (aR (fun c7=>?_) (fun c7=>bW (bH (aR (fun c9=>?_) (fun c9=>bW (bH (aR (fun c10=>?_) (fun c10=>?_)))))))))))))))))
  ·simp only[c1,if_true] at hk
   have hr:=hf.r1 (by omega)
   refine bW (aA (aC (b:=q4) (o:=0) hs rfl (aA (bI (b:=q6) (o:=0) hs rfl rfl rfl rfl fun h hs=>aU hs fun rr h hs=>aA (aC (b:=q4) (o:=0) hs rfl (aA (aC (b:=q6) (o:=0) hs rfl (A8 (s:=s) (a:=a) (c:=c) hs hr fun h hs=>?_))))))))
   have hs:=hs.sg (b:=q6) (o:=0) (c:=(aX.ev s i x 0 x.b 0).enc) rfl
   exact jP (s:=s.dN x.a x.b) (v:=aX.ev s i x 0 x.b 0) rfl (by omega) (shut (M:=L) (s':=s.dN x.a x.b) rfl hs.to) hk
  ·simp only[c2,if_true] at hk
   have hr:=hf.r1 (by omega)
   have hr2:=hf.r2 (by omega)
   have hr3:=hf.r3 (by omega)
   refine bW (aU hs fun rr h hs=>aA (aC (b:=q4) (o:=0) hs rfl (xB (s:=s) (i:=i) (a:=a) (c:=c) hs hr2 (aA (aC (b:=q4) (o:=0) hs rfl (xB (s:=s) (i:=i) (a:=a) (c:=c) hs hr3 (V1 (aA ?_))))))))
   refine bI (b:=q6) (o:=0) hs rfl rfl rfl rfl fun h hs=>aU hs fun rr2 h hs=>aA (aC (b:=q4) (o:=0) hs rfl (aA (aC (b:=q6) (o:=0) hs rfl (A8 (s:=s) (a:=a) (c:=c) hs hr fun h hs=>?_))))
   have hs:=hs.sg (b:=q6) (o:=0) (c:=(aX.ev s i x 0 (wr (s.cZ x.b.toNat+s.cZ x.c.toNat)) 0).enc) rfl
   exact jP (s:=s.dN x.a (wr (s.cZ x.b.toNat+s.cZ x.c.toNat))) (v:=aX.ev s i x 0 (wr (s.cZ x.b.toNat+s.cZ x.c.toNat)) 0) rfl (by omega) (shut (M:=L) (s':=s.dN x.a (wr (s.cZ x.b.toNat+s.cZ x.c.toNat))) rfl hs.to) hk
  ·simp only[c6,if_true] at hk
   exact bW (jP (s:=s) (v:=aX.ev s i x 0 0 0) rfl (by omega) (shut (M:=L) (s':=s) rfl hs.to) hk)
  ·simp only[c7,if_true] at hk
   refine bW (aA (aC (b:=q4) (o:=0) hs rfl (aA (bI (b:=q6) (o:=0) hs rfl rfl rfl rfl fun h hs=>aB (aA (aA (aC (b:=p) (o:=0) hs rfl (bH (aR (fun w0=>?_) (fun w0=>?_))))))))))
   ·simp only[w0,if_true] at hk
    refine bW (aA (aC (b:=q4) (o:=0) hs rfl (aB (aA (aA (bI (b:=p) (o:=0) hs rfl rfl rfl rfl fun h hs=>?_))))))
    have hs:=(hs.sg (b:=q6) (o:=0) (c:=(aX.ev s i x 0 x.a 0).enc) rfl).sg (b:=p) (o:=0) (c:=qK i (s.kx x.a) a c) rfl
    exact jP (s:=s.kx x.a) (v:=aX.ev s i x 0 x.a 0) rfl (by omega) (shut (M:=L) (s':=s.kx x.a) rfl hs.to) hk
   ·simp only[if_neg w0] at hk
    refine bW (aA (bI (b:=q6) (o:=0) hs rfl rfl rfl rfl fun h hs=>?_))
    have hs:=hs.sg (b:=q6) (o:=0) (c:=(aX.ev s i x 0 x.a 18).enc) rfl
    exact jP (s:=s) (v:=aX.ev s i x 0 x.a 18) rfl (by omega) (shut (M:=L) (s':=s) rfl hs.to) hk
  ·simp only[c9,if_true] at hk
   have hp:=hf.p1 (by omega)
   refine bW (aA (aC (b:=q4) (o:=0) hs rfl (aA (bI (b:=q6) (o:=0) hs rfl rfl rfl rfl fun h hs=>aA (aC (b:=q4) (o:=0) hs rfl ?_)))))
   have hs:=hs.sg (b:=q6) (o:=0) (c:=(aX.ev s i x 0 x.a 0).enc) rfl
   exact jP (s:=s) (v:=aX.ev s i x 0 x.a 0) rfl (by omega) (shut (M:=L) (s':=s) rfl hs.to) hk
  ·simp only[c10,if_true] at hk
   have hr:=hf.r1 (by omega)
   have hp:=hf.p2 (by omega)
   refine bW (aU hs fun rr h hs=>aA (aC (b:=q4) (o:=0) hs rfl (xB (s:=s) (i:=i) (a:=a) (c:=c) hs hr (aA ?_))))
   refine bI (b:=q6) (o:=0) hs rfl rfl rfl rfl fun h hs=>aA (aC (b:=q6) (o:=0) hs rfl (bH (aR (fun w0=>?_) (fun w0=>?_))))
   ·have w0:s.cZ x.a.toNat=0:=w0
    simp only[if_pos w0] at hk
    have hs:=hs.sg (b:=q6) (o:=0) (c:=(aX.ev s i x 0 (s.cZ x.a.toNat) 0).enc) rfl
    refine bW (aA (aC (b:=q4) (o:=0) hs rfl ?_))
    exact jP (s:=s) (v:=aX.ev s i x 0 (s.cZ x.a.toNat) 0) rfl (by omega) (shut (M:=L) (s':=s) rfl hs.to) hk
   ·have w0:¬s.cZ x.a.toNat=0:=w0
    simp only[if_neg w0] at hk
    have hs:=hs.sg (b:=q6) (o:=0) (c:=(aX.ev s i x 0 (s.cZ x.a.toNat) 0).enc) rfl
    exact bW (jP (s:=s) (v:=aX.ev s i x 0 (s.cZ x.a.toNat) 0) rfl (by omega) (shut (M:=L) (s':=s) rfl hs.to) hk)
  ·simp only[if_neg c1,if_neg c2,if_neg c6,if_neg c7,if_neg c9,if_neg c10] at hk
   refine aH (c:=Dv.enc) rfl (aZ (b:=q2) hs rfl rfl rfl rfl fun h hs=>aQ (b:=q2) (o:=0) hs (by decide) (l:=Dv.enc) rfl rfl (hk _ ?_))
   exact(kR p i s (a:=a) (c:=c) hs rfl rfl).to
end Go.Proofs.YtajjljbmfdboaaaGreatDoor
end
section
namespace Go.Proofs.YtajjljbmfdboaaaGreatDoor
open Go Go.Ab Go.Hm Go.At Go.Is Go.Mc
def rV (a:Acc):List Value:=[I a.word,.bool a.write,.bool a.read,I a.value]
def Oo:Acc:=⟨0,false,false,0⟩
def ff:Mc.Ask:=⟨0,0,0,0,0⟩
set_option maxRecDepth 100000
variable {G:Bg} {h:AH} {L L' M:List HP} {Q:Value→AH→Prop} {s:aX} {i p:Nat}
theorem Lu (ho:s.Ok) (hs:Hs G h L) [m:Has (kI i p) L s L']
  (hk:∀h',Hs G h' (kI i p s::L')→Q (match aX.Gj s with|some a=> .tuple ⟨[.agg ⟨rV a⟩,.bool true]⟩|none=> .tuple ⟨[.agg ⟨rV Oo⟩,.bool false]⟩) h'):Cl Pr K 41 [pt p 0 0] h Q:=by
 have hs:=m.of hs
 unfold aX.Gj aX.next? at hk
 refine cW (bN (cs:=rV Oo) hs fun q2 h hs=>Gq (i:=i) (s:=s) ho hs fun h hs=>?_)
 cases hov:s.over with
 |true=>
  simp only[hov,if_true] at hk ⊢
  refine aG rfl (aG rfl (bN hs fun q4 h hs=>aZ (b:=q4) hs rfl rfl rfl rfl fun h hs=>bS (eQ (aH (c:=rV Oo) rfl ?_))))
  refine aZ (b:=q2) hs rfl rfl rfl rfl fun h hs=>aQ (b:=q2) (o:=0) hs (by decide) (l:=rV Oo) rfl rfl (hk _ hs.to)
 |false=>
  have hf:=yW ho hov
  simp only[hov,Bool.false_eq_true,if_false] at hk ⊢
  generalize hx:yD s.prog s.at'=x at hk hf
  refine aG rfl (aG rfl (bN hs fun q4 h hs=>aZ (b:=q4) hs rfl rfl rfl rfl fun h hs=>bS (bV (aA (aC (b:=q4) (o:=0) hs rfl (Li (bS (dQ (cU (fun hm=>?_) (fun hm=>?_))))))))))
  ·have hm:I7 x.op=true:=hm
   have hm':x.op=3∨x.op=4∨x.op=5:=of_decide_eq_true hm
   simp only[hm,if_true] at hk
   have hr:=hf.r1 (by omega)
   have hr2:=hf.r2 (by omega)
   obtain⟨a,c,hs⟩:=pA (hs.front (kI i p s))
   have hs:Hs G h (aE q4 0 x.enc::aE q2 0 (rV Oo)::aE p 0 (qK i s a c)::Qk a c s.prog::L'):=hs.to
   have fin:∀{h:AH} {M:List HP} (q6:Nat) (v:Acc),[Sub M L']→Hs G h (aE q6 0 (rV v)::aE q2 0 (rV Oo)::aE p 0 (qK i s a c)::Qk a c s.prog::M)→(∀h',Hs G h' (kI i p s::L')→Q (.tuple ⟨[.agg ⟨rV v⟩,.bool true]⟩) h')→
     bA (uC h 4 (pt q6 0 0)) fun v1=>bA (uU h 4 (pt q2 0 0) v1) fun h2=>bA (uC h2 4 (pt q2 0 0)) fun v3=>Q (.tuple ⟨[v3,.bool true]⟩) h2:=by
    intro h M q6 v _ hs hq
    refine aQ (b:=q6) (o:=0) hs (by decide) (l:=rV v) rfl rfl (aZ (b:=q2) hs rfl rfl rfl rfl fun h hs=>aQ (b:=q2) (o:=0) hs (by decide) (l:=rV v) rfl rfl (hq _ ?_))
    exact(kR p i s (a:=a) (c:=c) hs rfl rfl).to
   refine bW (aU hs fun rr h hs=>aA (aC (b:=q4) (o:=0) hs rfl (xB (s:=s) (i:=i) (a:=a) (c:=c) hs hr2 (aH (c:=rV ⟨s.cZ x.b.toNat,false,false,0⟩) rfl ?_))))
   refine kC (r:=rr) (i:=9) (n:=11) (D:=[]) (cs:=rV Oo) hs rfl rfl fun q6 h hs=>aZ (b:=q6) hs rfl rfl rfl rfl fun h hs=>aA (aC (b:=q4) (o:=0) hs rfl (bH (aR (fun c3=>?_) (fun c3=>bW (bH (aR (fun c5=>?_) (fun c5=>bW (bH (aR (fun c4=>?_) (fun c4=>?_))))))))))
   ·rw[decide_eq_false (by omega),decide_eq_true (show x.op≠4 by omega),if_pos (show x.op=3 by omega)] at hk
    refine bW (aA (bI (b:=q6) (o:=0) hs rfl rfl rfl rfl fun h hs=>?_))
    have hs:=hs.sg (b:=q6) (o:=0) (c:=rV ⟨s.cZ x.b.toNat,false,true,0⟩) rfl
    exact fin (M:=L') q6 ⟨s.cZ x.b.toNat,false,true,0⟩ hs.to hk
   ·rw[decide_eq_true (show x.op≠3 by omega),decide_eq_true (show x.op≠4 by omega),if_neg (show ¬x.op=3 by omega)] at hk
    refine bW (aA (bI (b:=q6) (o:=0) hs rfl rfl rfl rfl fun h hs=>aA (bI (b:=q6) (o:=0) hs rfl rfl rfl rfl fun h hs=>aU hs fun rr h hs=>aA (aC (b:=q4) (o:=0) hs rfl (xB (s:=s) (i:=i) (a:=a) (c:=c) hs hr (aA (bI (b:=q6) (o:=0) hs rfl rfl rfl rfl fun h hs=>?_)))))))
    have hs:=hs.sg (b:=q6) (o:=0) (c:=rV ⟨s.cZ x.b.toNat,true,true,s.cZ x.a.toNat⟩) rfl
    exact fin (M:=L') q6 ⟨s.cZ x.b.toNat,true,true,s.cZ x.a.toNat⟩ hs.to hk
   ·rw[decide_eq_true (show x.op≠3 by omega),decide_eq_false (by omega),if_neg (show ¬x.op=3 by omega)] at hk
    refine bW (aA (bI (b:=q6) (o:=0) hs rfl rfl rfl rfl fun h hs=>aU hs fun rr h hs=>aA (aC (b:=q4) (o:=0) hs rfl (xB (s:=s) (i:=i) (a:=a) (c:=c) hs hr (aA (bI (b:=q6) (o:=0) hs rfl rfl rfl rfl fun h hs=>?_))))))
    have hs:=hs.sg (b:=q6) (o:=0) (c:=rV ⟨s.cZ x.b.toNat,true,false,s.cZ x.a.toNat⟩) rfl
    exact fin (M:=L') q6 ⟨s.cZ x.b.toNat,true,false,s.cZ x.a.toNat⟩ hs.to hk
   ·omega
  ·have hm:I7 x.op=false:=hm
   simp only[hm,Bool.false_eq_true,if_false] at hk
   refine aH (c:=rV Oo) rfl (aZ (b:=q2) hs rfl rfl rfl rfl fun h hs=>aQ (b:=q2) (o:=0) hs (by decide) (l:=rV Oo) rfl rfl (hk _ hs.to))
theorem aAd (ho:s.Ok) (hs:Hs G h L) [m:Has (kI i p) L s L']
  (hk:∀h',Hs G h' (kI i p s::L')→Q (match aX.Vd s i with|some a=> .tuple ⟨[.agg ⟨a.enc⟩,.bool true]⟩|none=> .tuple ⟨[.agg ⟨ff.enc⟩,.bool false]⟩) h'):Cl Pr K 42 [pt p 0 0] h Q:=by
 have hs:=m.of hs
 unfold aX.Vd aX.next? at hk
 refine cW (bN (cs:=ff.enc) hs fun q2 h hs=>Gq (i:=i) (s:=s) ho hs fun h hs=>?_)
 cases hov:s.over with
 |true=>
  simp only[hov,if_true] at hk ⊢
  refine aG rfl (aG rfl (bN hs fun q4 h hs=>aZ (b:=q4) hs rfl rfl rfl rfl fun h hs=>bS (eQ (aH (c:=ff.enc) rfl ?_))))
  refine aZ (b:=q2) hs rfl rfl rfl rfl fun h hs=>aQ (b:=q2) (o:=0) hs (by decide) (l:=ff.enc) rfl rfl (hk _ hs.to)
 |false=>
  have hf:=yW ho hov
  simp only[hov,Bool.false_eq_true,if_false] at hk ⊢
  generalize hx:yD s.prog s.at'=x at hk hf
  refine aG rfl (aG rfl (bN hs fun q4 h hs=>aZ (b:=q4) hs rfl rfl rfl rfl fun h hs=>bS (bV (aA (aC (b:=q4) (o:=0) hs rfl (aY (aR (fun c8=>?_) (fun c8=>?_))))))))
  ·have c8:¬x.op=8:=c8
   rw[if_neg c8] at hk
   refine aH (c:=ff.enc) rfl (aZ (b:=q2) hs rfl rfl rfl rfl fun h hs=>aQ (b:=q2) (o:=0) hs (by decide) (l:=ff.enc) rfl rfl (hk _ hs.to))
  ·have c8:x.op=8:=by have:¬x.op≠8:=c8;omega
   rw[if_pos c8] at hk
   have hr2:=hf.r2 (by omega)
   have hr3:=hf.r3 (by omega)
   obtain⟨a,c,hs⟩:=pA (hs.front (kI i p s))
   refine aU hs fun rr h hs=>aB (aA (aC (b:=p) (o:=0) hs rfl (aB (aA (aA (aC (b:=p) (o:=0) hs rfl (aA (aC (b:=q4) (o:=0) hs rfl (aA (aC (b:=q4) (o:=0) hs rfl ?_))))))))))
   refine xB (s:=s) (i:=i) (a:=a) (c:=c) hs hr2 (aA (aC (b:=q4) (o:=0) hs rfl (xB (s:=s) (i:=i) (a:=a) (c:=c) hs hr3 ?_)))
   refine aH (c:=(⟨i,s.world,x.a,s.cZ x.b.toNat,s.cZ x.c.toNat⟩:Mc.Ask).enc) rfl (aZ (b:=q2) hs rfl rfl rfl rfl fun h hs=>aQ (b:=q2) (o:=0) hs (by decide) (l:=(⟨i,s.world,x.a,s.cZ x.b.toNat,s.cZ x.c.toNat⟩:Mc.Ask).enc) rfl rfl (hk _ ?_))
   exact(kR p i s (a:=a) (c:=c) hs rfl rfl).to
theorem Uh {x:Ins} {q4 q6:Nat} {code:Int} {a:Option Addr} {c:Nat} {k:AH→Nat→Prop} {c0:Bool} (hc0:c0=true) (hr:0≤x.b∧x.b<4) (hs:Hs G h (aE q4 0 x.enc::aE q6 0 Dv.enc::aE p 0 (qK i s a c)::Qk a c s.prog::L))
  (hk:∀q h',Hs G h' (aE q 0 (aX.ev s i x (s.cZ x.b.toNat) 0 code).enc::aE q4 0 x.enc::aE q6 0 Dv.enc::aE p 0 (qK i s a c)::Qk a c s.prog::L)→k h' q):
  bA (uC h 4 (pt q4 0 0)) fun v0=>Cl Pr K 99 [pt p 0 0,v0] h fun v1 h1=>Dp h1 (.cells [(I 0),(I 0),(I 0),(I 0),(I 0),(I 0),(I 0)] 80 (0,0) true) fun p3 h2=>bA (uU h2 7 (pt p3 0 0) v1) fun h4=>Tx c0 h4 13 fun _ h5=>
   bA (gZ 2 (pt q4 0 0)) fun v7=>bA (pN h5 v7) fun v8=>bA (mQ (pt p 0 0)) fun v9=>bA (gZ 0 v9) fun v10=>bA (gZ 0 v10) fun v11=>bA (pF 4 1 v11 v8) fun v12=>bA (pN h5 v12) fun v13=>bA (gZ 4 (pt p3 0 0)) fun v14=>bA (uU h5 1 v14 v13) fun h15=>bA (gZ 6 (pt p3 0 0)) fun v16=>bA (uU h15 1 v16 (I code)) fun h17=>
   (mS (I code) (I code)=true)∧k h17 p3:=by
 refine aQ (b:=q4) (o:=0) hs (by decide) (l:=x.enc) rfl rfl (Q5 (a:=a) (c:=c) (s:=s) (i:=i) hs fun h hs=>bN hs fun q h hs=>aZ (b:=q) hs rfl rfl rfl rfl fun h hs=>aU (hc:=hc0) hs fun rr h hs=>aA (aC (b:=q4) (o:=0) hs rfl ?_))
 refine xB (s:=s) (i:=i) (a:=a) (c:=c) hs hr (aA (bI (b:=q) (o:=0) hs rfl rfl rfl rfl fun h hs=>aA (bI (b:=q) (o:=0) hs rfl rfl rfl rfl fun h hs=>cQ gC (hk _ _ ?_))))
 have hs:=hs.sg (b:=q) (o:=0) (c:=(aX.ev s i x (s.cZ x.b.toNat) 0 code).enc) rfl
 exact hs.to
theorem Zj {value code:Int} (ho:s.Ok) (hs:Hs G h L) [m:Has (kI i p) L s L']
  (hk:∀h',Hs G h' (kI i p (aX.cH s i value code).1::L')→Q (.tuple ⟨[.agg ⟨(aX.cH s i value code).2.1.enc⟩,I (aX.cH s i value code).2.2]⟩) h'):Cl Pr K 38 [pt p 0 0,I value,I code] h Q:=by
 have hs:=m.of hs
 have h0:=ho.1
 have h32:=ho.2.1
 unfold aX.cH aX.next? at hk
 refine cW (bN (cs:=Dv.enc) hs fun q6 h hs=>cN (bV (bW (Gq (i:=i) (s:=s) ho hs fun h hs=>?_))))
 have bad:∀{h:AH} {M:List HP} (e:Int),[Sub M (kI i p s::L')]→Hs G h (aE q6 0 Dv.enc::M)→(∀h',Hs G h' (kI i p s::L')→Q (.tuple ⟨[.agg ⟨Dv.enc⟩,I e]⟩) h')→
   bA (nI [(I 0),(I 0),(I 0),(I 0),(I 0),(I 0),(I 0)] []) fun c5=>bA (uU h 7 (pt q6 0 0) (.agg ⟨c5⟩)) fun h6=>bA (uC h6 7 (pt q6 0 0)) fun v7=>Q (.tuple ⟨[v7,(I e)]⟩) h6:=by
  intro h M e _ hs hq
  refine aH (c:=Dv.enc) rfl (aZ (b:=q6) hs rfl rfl rfl rfl fun h hs=>aQ (b:=q6) (o:=0) hs (by decide) (l:=Dv.enc) rfl rfl (hq _ ?_))
  exact hs.tail.to
 cases hov:s.over with
 |true=>
  simp only[hov,if_true] at hk ⊢
  refine aG rfl (aG rfl (bN hs fun q4 h hs=>aZ (b:=q4) hs rfl rfl rfl rfl fun h hs=>bS (eQ ?_)))
  exact bad (M:=kI i p s::L') 16 hs.to hk
 |false=>
  have hf:=yW ho hov
  simp only[hov,Bool.false_eq_true,if_false] at hk ⊢
  generalize hx:yD s.prog s.at'=x at hk hf
  refine aG rfl (aG rfl (bN hs fun q4 h hs=>aZ (b:=q4) hs rfl rfl rfl rfl fun h hs=>bS (bV (aA (aC (b:=q4) (o:=0) hs rfl ?_)))))
  have tail:∀{h:AH} {a:Option Addr} {c q:Nat},(x.op=8∨I7 x.op=true∧(code=0∨code=19))→Hs G h (aE q 0 (aX.ev s i x (s.cZ x.b.toNat) 0 code).enc::aE q4 0 x.enc::aE q6 0 Dv.enc::aE p 0 (qK i s a c)::Qk a c s.prog::L')→
    bA (gZ 0 (pt q4 0 0)) fun v18=>bA (pN h v18) fun v19=>bA (uK .eql v19 (I 8)) fun v20=>Br v20 (Dd 38 4 [] Q [(pt p 0 0),(I code),(pt q6 0 0),(pt q4 0 0),(pt q 0 0)] h) (Dd 38 5 [] Q [(pt p 0 0),(I value),(I code),(pt q6 0 0),(pt q4 0 0),(pt q 0 0)] h):=by
   intro h a c q hc hs
   have shut:∀{h:AH} {s':aX} {v:Ev},s'.prog=s.prog→Hs G h (aE q 0 v.enc::aE q6 0 Dv.enc::aE p 0 (qK i s' a c)::Qk a c s.prog::L')→Hs G h (kI i p s'::aE q 0 v.enc::aE q6 0 Dv.enc::L'):=by
    intro h s' v hp hs
    exact kR p i s' (a:=a) (c:=c) hs rfl hp.symm
   refine aA (aC (b:=q4) (o:=0) hs rfl (bH (aR (fun c8=>?_) (fun c8=>bW ?_))))
   ·have c8:x.op=8:=c8
    simp only[c8,if_true] at hk
    have hr2:=hf.r2 (by omega)
    have hr3:=hf.r3 (by omega)
    refine bW (aU hs fun rr h hs=>aA (aC (b:=q4) (o:=0) hs rfl (xB (s:=s) (i:=i) (a:=a) (c:=c) hs hr3 (aA (bI (b:=q) (o:=0) hs rfl rfl rfl rfl fun h hs=>aU hs fun rr h hs=>aA (aC (b:=q4) (o:=0) hs rfl (A8 (s:=s) (a:=a) (c:=c) hs hr2 fun h hs=>?_)))))))
    refine aB (aA (aA (aC (b:=p) (o:=0) hs rfl (bE (by show -9223372036854775808≤s.at'+1∧s.at'+1≤_;omega) ?_))))
    have hs:=hs.sg (b:=q) (o:=0) (c:=(aX.ev s i x (s.cZ x.b.toNat) (s.cZ x.c.toNat) code).enc) rfl
    exact jP (s:=s.dN x.b code) (v:=aX.ev s i x (s.cZ x.b.toNat) (s.cZ x.c.toNat) code) (x:=s.at'+1) rfl (by omega) (shut (s':=s.dN x.b code) rfl hs.to) hk
   ·have c8:¬x.op=8:=c8
    obtain⟨hm,hc⟩:I7 x.op=true∧(code=0∨code=19):=by rcases hc with h|h;exact absurd h c8;exact h
    have hm':x.op=3∨x.op=4∨x.op=5:=of_decide_eq_true hm
    have hr:=hf.r1 (by omega)
    simp only[if_neg c8,hm,if_true] at hk
    rw[if_neg (by omega)] at hk
    refine bH (aR (fun c19=>?_) (fun c19=>bW (aA (aC (b:=q4) (o:=0) hs rfl (bH (aR (fun c4=>?_) (fun c4=>?_)))))))
    ·simp only[c19,if_true] at hk
     subst c19
     refine bW (aB (aA (aA (aC (b:=p) (o:=0) hs rfl (bE (by omega) ?_)))))
     exact jP (s:=s) (v:=aX.ev s i x (s.cZ x.b.toNat) 0 19) (x:=s.at'+1) rfl (by omega) (shut (s':=s) rfl hs.to) hk
    ·have c4:x.op=4:=c4
     simp only[if_neg c19,c4,if_true] at hk
     have hc0:code=0:=by omega
     subst hc0
     refine bW (aU hs fun rr h hs=>aA (aC (b:=q4) (o:=0) hs rfl (xB (s:=s) (i:=i) (a:=a) (c:=c) hs hr (aA (bI (b:=q) (o:=0) hs rfl rfl rfl rfl fun h hs=>aB (aA (aA (aC (b:=p) (o:=0) hs rfl (bE (by show -9223372036854775808≤s.at'+1∧s.at'+1≤_;omega) ?_)))))))))
     have hs:=hs.sg (b:=q) (o:=0) (c:=(aX.ev s i x (s.cZ x.b.toNat) (s.cZ x.a.toNat) 0).enc) rfl
     exact jP (s:=s) (v:=aX.ev s i x (s.cZ x.b.toNat) (s.cZ x.a.toNat) 0) (x:=s.at'+1) rfl (by omega) (shut (s':=s) rfl hs.to) hk
    ·have c4:¬x.op=4:=c4
     simp only[if_neg c19,if_neg c4] at hk
     have hc0:code=0:=by omega
     subst hc0
     refine bW (aA (bI (b:=q) (o:=0) hs rfl rfl rfl rfl fun h hs=>aU hs fun rr h hs=>aA (aC (b:=q4) (o:=0) hs rfl (A8 (s:=s) (a:=a) (c:=c) hs hr fun h hs=>aB (aA (aA (aC (b:=p) (o:=0) hs rfl (bE (by show -9223372036854775808≤s.at'+1∧s.at'+1≤_;omega) ?_))))))))
     have hs:=hs.sg (b:=q) (o:=0) (c:=(aX.ev s i x (s.cZ x.b.toNat) value 0).enc) rfl
     exact jP (s:=s.dN x.a value) (v:=aX.ev s i x (s.cZ x.b.toNat) value 0) (x:=s.at'+1) rfl (by omega) (shut (s':=s.dN x.a value) rfl hs.to) hk
  have opn:∀{h:AH} {M:List HP},[Sub M L']→Hs G h (aE q4 0 x.enc::aE q6 0 Dv.enc::kI i p s::M)→∃a c,Hs G h (aE q4 0 x.enc::aE q6 0 Dv.enc::aE p 0 (qK i s a c)::Qk a c s.prog::L'):=by
   intro h M _ hs
   obtain⟨a,c,hs⟩:=pA (hs.front (kI i p s))
   exact⟨a,c,hs.to⟩
  have hs:Hs G h (aE q4 0 x.enc::aE q6 0 Dv.enc::kI i p s::L'):=hs.to
  refine aY (aR (fun c8=>?_) (fun c8=>?_))
  ·have c8:¬x.op=8:=c8
   refine aA (aC (b:=q4) (o:=0) hs rfl (Li (bS (dQ (cU (fun hm=>?_) (fun hm=>?_))))))
   ·have hm:I7 x.op=true:=hm
    have hm':x.op=3∨x.op=4∨x.op=5:=of_decide_eq_true hm
    have hr2:=hf.r2 (by omega)
    refine bW (aA (aC (b:=q4) (o:=0) hs rfl (aY (bP c8 (aY (aR (fun e0=>aY (aR (fun e19=>?_) (fun e19=>?_))) (fun e0=>?_)))))))
    ·simp only[if_neg c8,hm,if_true] at hk
     rw[if_pos ⟨e0,e19⟩] at hk
     exact bad (M:=kI i p s::L') 1 hs.to hk
    ·obtain⟨a,c,hs⟩:=opn (M:=L') hs
     refine bW (Uh (k:=fun h q=>bA (gZ 0 (pt q4 0 0)) fun v18=>bA (pN h v18) fun v19=>bA (uK .eql v19 (I 8)) fun v20=>Br v20 (Dd 38 4 [] Q [(pt p 0 0),(I code),(pt q6 0 0),(pt q4 0 0),(pt q 0 0)] h) (Dd 38 5 [] Q [(pt p 0 0),(I value),(I code),(pt q6 0 0),(pt q4 0 0),(pt q 0 0)] h)) (by kernel_rfl) hr2 hs fun q h hs=>tail (.inr ⟨hm,by omega⟩) hs)
    ·obtain⟨a,c,hs⟩:=opn (M:=L') hs
     exact Uh (k:=fun h q=>bA (gZ 0 (pt q4 0 0)) fun v18=>bA (pN h v18) fun v19=>bA (uK .eql v19 (I 8)) fun v20=>Br v20 (Dd 38 4 [] Q [(pt p 0 0),(I code),(pt q6 0 0),(pt q4 0 0),(pt q 0 0)] h) (Dd 38 5 [] Q [(pt p 0 0),(I value),(I code),(pt q6 0 0),(pt q4 0 0),(pt q 0 0)] h)) (by kernel_rfl) hr2 hs fun q h hs=>tail (.inr ⟨hm,by omega⟩) hs
   ·have hm:I7 x.op=false:=hm
    simp only[if_neg c8,hm,Bool.false_eq_true,if_false] at hk
    exact bad (M:=kI i p s::L') 16 hs.to hk
  ·have c8:x.op=8:=by have:¬x.op≠8:=c8;omega
   have hr2:=hf.r2 (by omega)
   refine aA (aC (b:=q4) (o:=0) hs rfl (aY (aK (by show ¬x.op≠8;omega) ?_)))
   obtain⟨a,c,hs⟩:=opn (M:=L') hs
   exact Uh (k:=fun h q=>bA (gZ 0 (pt q4 0 0)) fun v18=>bA (pN h v18) fun v19=>bA (uK .eql v19 (I 8)) fun v20=>Br v20 (Dd 38 4 [] Q [(pt p 0 0),(I code),(pt q6 0 0),(pt q4 0 0),(pt q 0 0)] h) (Dd 38 5 [] Q [(pt p 0 0),(I value),(I code),(pt q6 0 0),(pt q4 0 0),(pt q 0 0)] h)) (by kernel_rfl) hr2 hs fun q h hs=>tail (.inl c8) hs
end Go.Proofs.YtajjljbmfdboaaaGreatDoor
end
section
namespace Go.Proofs.YtajjljbmfdboaaaGreatDoor
open Go Go.Ab Go.Hm Go.At Go.Is Go.Mc
set_option maxRecDepth 100000
variable {G:Bg} {h:AH} {L L' M:List HP} {Q:Value→AH→Prop} {s:aX} {i p:Nat}
theorem Xt {α:Type} {enc:α→List Value} {l:List α}:(l.map enc).flatten=eL enc l:=by simp[eL,List.flatMap]
theorem Po {v:Value} {e:TypeId} {l:List Ins} (hb:l.length≤1000) (hs:Hs G h (yK G 4 e v (l.map Ins.enc)::L)) (hk:∀a c h',Hs G h' (Qk a c l::yK G 4 e v (l.map Ins.enc)::L)→Q (.slice a l.length c) h'):Cl Pr K 95 [v] h Q:=by
 refine cW (Jm (bytes:=32) (e:=86) hs (by decide) (List.length_map ..) (by rw[Xt];exact Hc) (by omega) fun a c h hs=>hk a c h ?_)
 rw[Xt] at hs
 exact hs
theorem dv {v:Value} {w:Int} {e:TypeId} {pr:List Ins} (hi:i<4) (hw:0≤w∧w≤3) (hg:Ob G 1 tU) (hc:(jV pr).2=0) (hs:Hs G h (yK G 4 e v (pr.map Ins.enc)::L))
  (hk:∀p h',Hs G h' (kI i p (rC pr w)::yK G 4 e v (pr.map Ins.enc)::L)→Q (.tuple ⟨[pt p 0 0,I 0]⟩) h'):Cl Pr K 36 [I i,I w,v] h Q:=by
 have hlen:pr.length≤32:=by
  unfold jV at hc
  split at hc
  ·cases hc
  ·omega
 refine cW (aN (aK (by omega) (dR (aK (by omega) (aN (aK (by omega) (iS (aK (by omega) (bW (Dm hg hs fun h hs=>aG rfl (aG rfl (aY (aK (by omega) (bW ?_))))))))))))))
 refine Po (l:=pr) (by omega) hs fun a c h hs=>?_
 refine aH (c:=qK i ⟨fun _=>0,0,0,false,pr⟩ a c) rfl (dI hs fun p h hs=>aB (aA (aA (bI (b:=p) (o:=0) hs rfl rfl rfl rfl fun h hs=>?_))))
 have hs:Hs G h (aE p 0 (qK i ⟨fun _=>0,0,w,false,pr⟩ a c)::Qk a c pr::yK G 4 e v (pr.map Ins.enc)::L):=hs
 have hs:=kR p i ⟨fun _=>0,0,w,false,pr⟩ (a:=a) (c:=c) hs rfl rfl
 exact Gc (i:=i) (s:=⟨fun _=>0,0,w,false,pr⟩) (by omega) hs fun h hs=>hk _ _ hs
end Go.Proofs.YtajjljbmfdboaaaGreatDoor
end
section
namespace Go.Proofs.YtajjljbmfdboaaaGreatDoor
open Go Go.Ab Go.Hm Go.At Go.Mc Go.Ct
instance:Fx Ev.enc 7 where
 len _:=rfl
 cel _:=rfl
structure MN where
 lc:List Nat
 lk:List Nat
 lq:List Nat
 ac:Option Addr
 ak:Option Addr
 aq:Option Addr
 al:Option Addr
 cc:Nat
 ck:Nat
 cq:Nat
 cl:Nat
 hb:Nat
 mb:Nat
 fb:Nat
def eX (Cf:bL) (x:MN) (n:Nat):List Value:=Cf.enc++[.slice x.ac x.lc.length x.cc,.slice x.ak x.lk.length x.ck,.slice x.aq x.lq.length x.cq,pt x.hb 0 0,pt x.mb 0 0,pt x.fb 0 0,.slice x.al n x.cl]
def Wk (Cf:bL) (x:MN):Prop:=x.lc.length=Cf.aF.toNat∧x.lk.length=Cf.aF.toNat∧x.lq.length=Cf.aF.toNat
abbrev sC:Nat→Nat→aX→HP:=fun i p s=>kI i p s
abbrev oL (G:Bg) (Cf:bL):Nat→Nat→jF→HP:=fun i p s=>C.fO G p Cf i s
abbrev oC (Cf:bL):Nat→Nat→lU→HP:=fun _ p s=>iT p Cf s
abbrev fq (a:Option Addr) (c:Nat) (l:List Ev):HP:=ls Ev.enc 7 80 a c l
abbrev g9 (a:Option Addr) (c:Nat) (l:List Nat):HP:=ls pE 1 75 a c l
abbrev Uo (a:Option Addr) (c:Nat) (l:List Nat):HP:=ls pE 1 137 a c l
abbrev Ul (a:Option Addr) (c:Nat) (l:List Nat):HP:=ls pE 1 140 a c l
def K6 (G:Bg) (Cf:bL) (m:Nat) (M:cR) (x:MN):List HP:=[uI (Wk Cf x),aE m 0 (eX Cf x M.log.length),g9 x.ac x.cc x.lc,Uo x.ak x.ck x.lk,Ul x.aq x.cq x.lq,
  nV sC x.lc M.aS,nV (oL G Cf) x.lk M.dC,nV (oC Cf) x.lq M.cK,H.eY G x.hb Cf M.home,fD Cf x.mb M.dY,mF Cf x.fb M.jE,fq x.al x.cl M.log]
def mV (G:Bg) (Cf:bL) (m:Nat) (x:MN) (M:cR):HP:=sp (K6 G Cf m M x)
def bG (G:Bg) (Cf:bL) (m:Nat) (M:cR):HP:=rY fun x:MN=>sp (K6 G Cf m M x)
set_option maxRecDepth 100000
variable {G:Bg} {h:AH} {L L':List HP} {Q:Value→AH→Prop} {Cf:bL} {m:Nat} {M:cR}
theorem cB (hs:Hs G h (bG G Cf m M::L)):∃x,Wk Cf x∧Hs G h (aE m 0 (eX Cf x M.log.length)::g9 x.ac x.cc x.lc::Uo x.ak x.ck x.lk::Ul x.aq x.cq x.lq::
  nV sC x.lc M.aS::nV (oL G Cf) x.lk M.dC::nV (oC Cf) x.lq M.cK::H.eY G x.hb Cf M.home::fD Cf x.mb M.dY::mF Cf x.fb M.jE::fq x.al x.cl M.log::L):=by
 obtain⟨x,hs⟩:=hs.zE
 obtain⟨hl,hs⟩:=Hs.bq hs.unpack
 exact⟨x,hl,hs⟩
theorem vS {x:MN} (hl:Wk Cf x) (hs:Hs G h (aE m 0 (eX Cf x M.log.length)::g9 x.ac x.cc x.lc::Uo x.ak x.ck x.lk::Ul x.aq x.cq x.lq::
  nV sC x.lc M.aS::nV (oL G Cf) x.lk M.dC::nV (oC Cf) x.lq M.cK::H.eY G x.hb Cf M.home::fD Cf x.mb M.dY::mF Cf x.fb M.jE::fq x.al x.cl M.log::L)):Hs G h (bG G Cf m M::L):=
 Hs.uH (A:=fun x:MN=>sp (K6 G Cf m M x)) x (Hs.pack (A:=K6 G Cf m M x) (Hs.N9 hl hs))
theorem bC {x:MN} (M:cR) (hl:Wk Cf x) {L1 L2 L3 L4 L5 L6 L7 L8 L9 L10 L11:List HP} (hs:Hs G h L) [k1:dP (aE m 0 (eX Cf x M.log.length)) L L1] [k2:dP (g9 x.ac x.cc x.lc) L1 L2] [k3:dP (Uo x.ak x.ck x.lk) L2 L3] [k4:dP (Ul x.aq x.cq x.lq) L3 L4] [k5:dP (nV sC x.lc M.aS) L4 L5] [k6:dP (nV (oL G Cf) x.lk M.dC) L5 L6] [k7:dP (nV (oC Cf) x.lq M.cK) L6 L7] [k8:dP (H.eY G x.hb Cf M.home) L7 L8] [k9:dP (fD Cf x.mb M.dY) L8 L9] [k10:dP (mF Cf x.fb M.jE) L9 L10] [k11:dP (fq x.al x.cl M.log) L10 L11]:Hs G h (bG G Cf m M::L11):=
 vS (x:=x) hl (hs.perm (k1.perm.trans ((k2.perm.trans ((k3.perm.trans ((k4.perm.trans ((k5.perm.trans ((k6.perm.trans ((k7.perm.trans ((k8.perm.trans ((k9.perm.trans ((k10.perm.trans ((k11.perm).cons _)).cons _)).cons _)).cons _)).cons _)).cons _)).cons _)).cons _)).cons _)).cons _)))
theorem mH {x:MN} (M:cR) (hl:Wk Cf x) {L1 L2 L3 L4 L5 L6 L7 L8 L9 L10 L11:List HP} (hs:Hs G h L) [k1:dP (aE m 0 (eX Cf x M.log.length)) L L1] [k2:dP (g9 x.ac x.cc x.lc) L1 L2] [k3:dP (Uo x.ak x.ck x.lk) L2 L3] [k4:dP (Ul x.aq x.cq x.lq) L3 L4] [k5:dP (nV sC x.lc M.aS) L4 L5] [k6:dP (nV (oL G Cf) x.lk M.dC) L5 L6] [k7:dP (nV (oC Cf) x.lq M.cK) L6 L7] [k8:dP (H.eY G x.hb Cf M.home) L7 L8] [k9:dP (fD Cf x.mb M.dY) L8 L9] [k10:dP (mF Cf x.fb M.jE) L9 L10] [k11:dP (fq x.al x.cl M.log) L10 L11]:Hs G h (mV G Cf m x M::L11):=
 Hs.pack (A:=K6 G Cf m M x) (Hs.N9 hl (hs.perm (k1.perm.trans ((k2.perm.trans ((k3.perm.trans ((k4.perm.trans ((k5.perm.trans ((k6.perm.trans ((k7.perm.trans ((k8.perm.trans ((k9.perm.trans ((k10.perm.trans ((k11.perm).cons _)).cons _)).cons _)).cons _)).cons _)).cons _)).cons _)).cons _)).cons _)).cons _))))
theorem iF {x:MN} (hs:Hs G h (mV G Cf m x M::L)):Wk Cf x∧Hs G h (aE m 0 (eX Cf x M.log.length)::g9 x.ac x.cc x.lc::Uo x.ak x.ck x.lk::Ul x.aq x.cq x.lq::
  nV sC x.lc M.aS::nV (oL G Cf) x.lk M.dC::nV (oC Cf) x.lq M.cK::H.eY G x.hb Cf M.home::fD Cf x.mb M.dY::mF Cf x.fb M.jE::fq x.al x.cl M.log::L):=Hs.bq hs.unpack
theorem Vv (hs:Hs G h (bG G Cf m M::L)):∃x,Hs G h (mV G Cf m x M::L):=hs.zE
theorem qo {x:MN} (hs:Hs G h (mV G Cf m x M::L)):Hs G h (bG G Cf m M::L):=Hs.uH (A:=fun x:MN=>sp (K6 G Cf m M x)) x hs
theorem Ei {a:Option Addr} {c i:Nat} {l:List Nat} {k:Value→Prop} (hs:Hs G h L) [mm:Has (g9 a c) L l L'] (hi:i<l.length) (hk:k (pt (l.getD i 0) 0 0)):bA (lJ 1 (.slice a l.length c) (I i)) fun p=>bA (pN h p) k:=
 sq (e:=75) (show Hs G h (g9 a c l::L') from mm.of hs) hi hk
theorem D4 {a:Option Addr} {c i:Nat} {l:List Nat} {k:Value→Prop} (hs:Hs G h L) [mm:Has (Uo a c) L l L'] (hi:i<l.length) (hk:k (pt (l.getD i 0) 0 0)):bA (lJ 1 (.slice a l.length c) (I i)) fun p=>bA (pN h p) k:=
 sq (e:=137) (show Hs G h (Uo a c l::L') from mm.of hs) hi hk
theorem Yx {a:Option Addr} {c i q:Nat} {l:List Nat} {k:AH→Prop} (hs:Hs G h L) [mm:Has (Uo a c) L l L'] (hi:i<l.length) (hk:∀h',Hs G h' (Uo a c (l.set i q)::L')→k h'):bA (lJ 1 (.slice a l.length c) (I i)) fun p=>bA (uU h 1 p (pt q 0 0)) k:=
 jn (e:=137) (show Hs G h (Uo a c l::L') from mm.of hs) hi hk
theorem Ep {a:Option Addr} {c i:Nat} {l:List Nat} {k:Value→Prop} (hs:Hs G h L) [mm:Has (Ul a c) L l L'] (hi:i<l.length) (hk:k (pt (l.getD i 0) 0 0)):bA (lJ 1 (.slice a l.length c) (I i)) fun p=>bA (pN h p) k:=
 sq (e:=140) (show Hs G h (Ul a c l::L') from mm.of hs) hi hk
theorem Mz {a:Option Addr} {c i q:Nat} {l:List Nat} {k:AH→Prop} (hs:Hs G h L) [mm:Has (Ul a c) L l L'] (hi:i<l.length) (hk:∀h',Hs G h' (Ul a c (l.set i q)::L')→k h'):bA (lJ 1 (.slice a l.length c) (I i)) fun p=>bA (uU h 1 p (pt q 0 0)) k:=
 jn (e:=140) (show Hs G h (Ul a c l::L') from mm.of hs) hi hk
theorem Ga {l:List Nat} {s:Nat→aX} {i:Nat} {t:aX} (hi:i<l.length) (hs:Hs G h L) [k:dP (kI i (l.getD i 0) t) L L'] {N:List HP} [k2:dP (Da sC l s i) L' N]:Hs G h (nV sC l (bT s i t)::N):=xP hi (hs.cA (kI i (l.getD i 0) t) (Da sC l s i))
theorem Yb {a:Option Addr} {c:Nat} {l:List Ev} {v:Ev} {a2:Option Addr} {c2:Nat} {k:Value×AH→Prop} {N:List HP} (hb:l.length≤2^30) (hs:Hs G h L) [mm:Has (fq a c) L l L'] [m2:dP (fq a2 c2 [v]) L' N]
  (hk:∀a' c' h',Hs G h' (fq a' c' (l++[v])::N)→k (.slice a' (l++[v]).length c',h')):bA (jB 7 56 80 h (.slice a l.length c) (.slice a2 1 c2)) k:=by
 have hs:=mm.of hs
 have hs2:Hs G h (fq a c l::fq a2 c2 [v]::N):=hs.perm (m2.perm.cons _)
 exact kB (l:=l) (l2:=[v]) (a:=a) (c:=c) (a2:=a2) (c2:=c2) hs2 (by simp;omega) fun a' c' h hs=>hk a' c' h hs.kA.tail
end Go.Proofs.YtajjljbmfdboaaaGreatDoor
end
section
namespace Go.Proofs.YtajjljbmfdboaaaGreatDoor
open Go Go.Ab Go.Hm Go.At Go.Mc Go.Ct
set_option maxRecDepth 100000
variable {G:Bg} {h:AH} {L L':List HP} {Q:Value→AH→Prop} {Cf:bL} {m:Nat} {M:cR}
theorem lY {i:Nat} {v c:Int} (hi:(i:Int)<Cf.aF) (ho:(M.aS i).Ok) (hlog:M.log.length≤2^30) (hs:Hs G h L) [mm:Has (bG G Cf m) L M L'] (hk:∀h',Hs G h' (bG G Cf m (M.cH i v c).1::L')→Q (I (M.cH i v c).2) h'):Cl Pr K 161 [pt m 0 0,I i,I v,I c] h Q:=by
 obtain⟨x,hl,hs⟩:=cB (mm.of hs)
 have hic:i<x.lc.length:=by have:=hl.1;omega
 unfold cR.cH at hk
 refine cW (aB (aA (aC (b:=m) (o:=0) hs rfl (Ei hs hic ?_))))
 have hs:=gF (R:=sC) (l:=x.lc) (s:=M.aS) hic hs
 refine Zj (i:=i) (p:=x.lc.getD i 0) (s:=M.aS i) ho hs fun h hs=>?_
 have hs:=Ga (l:=x.lc) (s:=M.aS) (i:=i) (t:=(aX.cH (M.aS i) i v c).1) hic hs
 refine aG rfl (aG rfl (bN hs fun q h hs=>aZ (b:=q) hs rfl rfl rfl rfl fun h hs=>aY (aR (fun h1=>?_) (fun h1=>?_))))
 ·rw[if_pos h1] at hk
  refine hk _ ?_
  have e:bT M.aS i (aX.cH (M.aS i) i v c).1=M.aS:=by
   have:(aX.cH (M.aS i) i v c).1=M.aS i:=by
    unfold aX.cH at h1 ⊢
    cases hn:aX.next? (M.aS i) with
    |none=>rfl
    |some y=>grind
   rw[this]
   funext j
   unfold bT
   split
   ·rename_i e;rw[e]
   ·rfl
  rw[e] at hs
  exact vS hl hs.to
 ·rw[if_neg h1] at hk
  refine bW (aU hs fun rr h hs=>aB (aA (aC (b:=m) (o:=0) hs rfl (aQ (b:=q) (o:=0) hs (by decide) (l:=(aX.cH (M.aS i) i v c).2.1.enc) rfl rfl (aH (c:=(aX.cH (M.aS i) i v c).2.1.enc) rfl ?_)))))
  refine iW (r:=rr) (i:=6) (N:=11) (D:=[]) (W:=7) hs rfl rfl rfl rfl rfl fun a h hs=>?_
  have hs:=nL (enc:=Ev.enc) (x:=(aX.cH (M.aS i) i v c).2.1) hs
  refine Yb (l:=M.log) (v:=(aX.cH (M.aS i) i v c).2.1) hlog hs fun a' c' h hs=>aB (aA (bI (b:=m) (o:=0) hs rfl rfl rfl rfl fun h hs=>cQ dA (hk _ ?_)))
  have e:dL (eX Cf x M.log.length) (0+13) [.slice a' (M.log++[(aX.cH (M.aS i) i v c).2.1]).length c']=eX Cf {x with al:=a',cl:=c'} (M.log++[(aX.cH (M.aS i) i v c).2.1]).length:=rfl
  rw[e] at hs
  exact vS (M:=(M.wR i (aX.cH (M.aS i) i v c).1).R2 (aX.cH (M.aS i) i v c).2.1) (x:={x with al:=a',cl:=c'}) hl hs.to
end Go.Proofs.YtajjljbmfdboaaaGreatDoor
end
section
namespace Go.Proofs.YtajjljbmfdboaaaGreatDoor
open Go Go.Ab Go.Hm Go.At Go.Mc Go.Ct
set_option maxRecDepth 100000
variable {G:Bg} {h:AH} {L L':List HP} {Q:Value→AH→Prop} {Cf:bL} {m:Nat} {x:MN} {M:cR}
abbrev wtX (G:Bg) (Cf:bL) (m:Nat) (x:MN) (M:cR) (p2 p3 p4:Nat) (co:Int) (e:Nat→Value) (d l:Nat) (st:LoopState×Option Code) (b:Bool) (pr:Prop):HP:=
 sp [uI pr,jY Pr 20 (kD 58) 32 e d l st,sp [aE p2 0 [pt m 0 0],aE p3 0 [I co],aE p4 0 [.bool b]],mV G Cf m x M]
theorem Lf {co:Int} (hm:gB Cf M.dY) (hs:Hs G h L) [mm:Has (mV G Cf m x) L M L'] (hk:∀h',Hs G h' (mV G Cf m x M::L')→Q (.bool (M.waits co)) h'):Cl Pr K 20 [pt m 0 0,I co] h Q:=by
 unfold cR.waits at hk
 refine cW (dI (mm.of hs) fun p2 h hs=>dI hs fun p3 h hs=>bN hs fun p4 h hs=>aC (b:=p2) (o:=0) hs rfl (cN (bV ?_)))
 obtain⟨hl,hs⟩:=iF (hs.front (mV G Cf m x M))
 refine bW (aC (b:=p2) (o:=0) hs rfl (aB (aA (aC (b:=m) (o:=0) hs rfl (Aw (C:=Cf) (m:=M.dY) hs fun q qa qc h hs=>?_)))))
 have hs:=mH (m:=m) (x:=x) M hl hs
 refine jX hs fun d h hs=>?_
 intro e he
 refine mG hs fun l h hs=>rT rfl ?_
 have hs:Hs G h (H.F1 3 q qa qc (M.dY.running.map fun k:Nat=>(k:Int))::wtX G Cf m x M p2 p3 p4 co e d l (.ready,none) false (∀g∈([]:List Int),M.dY.kH co g.toNat=false)::mk d ()::L'):=by
  have hs:=(hs.cJ (aE p2 0 [pt m 0 0]) (aE p3 0 [I co]) (aE p4 0 [.bool false])).Ko
  have hs:=hs.cJ (jY Pr 20 (kD 58) 32 e d l (.ready,none)) (sp [aE p2 0 [pt m 0 0],aE p3 0 [I co],aE p4 0 [.bool false]]) (mV G Cf m x M)
  have hs:=Hs.Ge (Hs.N9 (p:=∀g∈([]:List Int),M.dY.kH co g.toNat=false) (by simp) hs)
  exact hs.to
 refine(H.xV (e:=3) (p:=q) (a:=qa) (c:=qc) (xs:=M.dY.running.map fun k:Nat=>(k:Int)) (by have:=List.length_filter_le (fun g=>(M.dY.runs g).isSome) (List.range 16);simp[Mon.running] at this ⊢;omega)).fold
  (X:=fun done=>wtX G Cf m x M p2 p3 p4 co e d l (.ready,none) false (∀g∈done,M.dY.kH co g.toNat=false)) (Z:=fun _ y=>wtX G Cf m x M p2 p3 p4 co e d l (.done,some .ret) true (y∈(M.dY.running.map fun k:Nat=>(k:Int))∧M.dY.kH co y.toNat=true)) hs ?_ ?_ ?_
 ·intro done y h N hp hs
  obtain⟨hd,hs⟩:=fP hs
  have hs:=hs.wP
  obtain⟨k,hkr,rfl⟩:∃k∈M.dY.running,(k:Int)=y:=by
   obtain⟨ys,hys⟩:=hp
   have:y∈M.dY.running.map fun k:Nat=>(k:Int):=by rw[←hys];simp
   obtain⟨k,h1,h2⟩:=List.mem_map.1 this
   exact⟨k,h1,h2⟩
  obtain⟨r,hr⟩:=Option.isSome_iff_exists.1 (pD.1 hkr).2
  have hrr:M.dY.run (k:Int)=some r:=by unfold Mon.run;rw[if_pos (by omega)];exact hr
  have hph:M.dY.phase (k:Int)≠0:=by
   unfold Mon.phase
   rw[hrr]
   have:=(hm.run k r hr).2.2.1
   dsimp only
   omega
  have hs:=(hs.front (sp [aE p2 0 [pt m 0 0],aE p3 0 [I co],aE p4 0 [.bool false]])).wP
  obtain⟨hl,hs⟩:=iF (hs.front (mV G Cf m x M))
  refine rW (rS hs) he (gU hs fun h hs=>aC (b:=p2) (o:=0) hs rfl (aB (aA (aC (b:=m) (o:=0) hs rfl (aEc (C:=Cf) (m:=M.dY) hs fun a h hs ha1 ha2 ha3=>?_)))))
  rw[ha1 hph,hrr,decide_eq_true hph]
  have hs:=mH (m:=m) (x:=x) M hl hs
  refine aG rfl (aG rfl (bN hs fun p9 h hs=>aZ (b:=p9) (vs:=yN r) hs rfl rfl rfl rfl fun h hs=>eQ (aA (aC (b:=p9) (o:=0) hs rfl (aC (b:=p3) (o:=0) hs rfl (bH (aR (fun c1=>?_) (fun c1=>?_))))))))
  ·refine aZ (b:=p4) hs rfl rfl rfl rfl fun h hs=>iE hs fun h hs=> .inr ⟨rfl,?_⟩
   have hs:=(hs.cJ (aE p2 0 [pt m 0 0]) (aE p3 0 [I co]) (aE p4 0 [.bool true])).Ko
   have hs:=hs.cJ (jY Pr 20 (kD 58) 32 e d l (.done,some .ret)) (sp [aE p2 0 [pt m 0 0],aE p3 0 [I co],aE p4 0 [.bool true]]) (mV G Cf m x M)
   refine(Hs.Ge (Hs.N9 (p:=((k:Int)∈(M.dY.running.map fun k:Nat=>(k:Int))∧M.dY.kH co ((k:Int)).toNat=true)) ⟨List.mem_map.2 ⟨k,hkr,rfl⟩,?_⟩ hs)).to
   unfold Mon.kH;rw[Int.toNat_natCast,hr];exact decide_eq_true c1
  ·refine iE hs fun h hs=> .inl ⟨rfl,?_⟩
   have hs:=(hs.cJ (aE p2 0 [pt m 0 0]) (aE p3 0 [I co]) (aE p4 0 [.bool false])).Ko
   have hs:=hs.cJ (jY Pr 20 (kD 58) 32 e d l (.ready,none)) (sp [aE p2 0 [pt m 0 0],aE p3 0 [I co],aE p4 0 [.bool false]]) (mV G Cf m x M)
   refine(Hs.Ge (Hs.N9 (p:=∀g∈done++[((k:Nat):Int)],M.dY.kH co g.toNat=false) ?_ hs)).to
   intro g hg
   rcases List.mem_append.1 hg with hg|hg
   ·exact hd g hg
   ·rw[List.mem_singleton.1 hg,Int.toNat_natCast];unfold Mon.kH;rw[hr];exact decide_eq_false c1
 ·intro v h hs
  obtain⟨hd,hs⟩:=fP (hs.front (wtX G Cf m x M p2 p3 p4 co e d l (.ready,none) false (∀g∈M.dY.running.map (fun k:Nat=>(k:Int)),M.dY.kH co g.toNat=false)))
  have hs:=hs.wP
  have hno:M.dY.calls co=false:=by
   unfold Mon.calls
   rw[List.any_eq_false]
   intro g hg
   have:=hd g (List.mem_map.2 ⟨g,hg,rfl⟩)
   rw[Int.toNat_natCast] at this
   rw[this];simp
  rw[hno] at hk
  have hs:=(hs.front (sp [aE p2 0 [pt m 0 0],aE p3 0 [I co],aE p4 0 [.bool false]])).wP
  exact mE hs fun h hs=>mC (aZ (b:=p4) hs rfl rfl rfl rfl fun h hs=>lN hs fun h hs=>jI (aC (b:=p4) (o:=0) hs rfl (hk _ hs.to)))
 ·intro done y v h hp hs
  obtain⟨hd,hs⟩:=fP (hs.front (wtX G Cf m x M p2 p3 p4 co e d l (.done,some .ret) true (y∈(M.dY.running.map fun k:Nat=>(k:Int))∧M.dY.kH co y.toNat=true)))
  have hs:=hs.wP
  have hyes:M.dY.calls co=true:=by
   unfold Mon.calls
   rw[List.any_eq_true]
   obtain⟨k,hk1,hk2⟩:=List.mem_map.1 hd.1
   refine⟨k,hk1,?_⟩
   have:=hd.2
   rw[←hk2,Int.toNat_natCast] at this
   exact this
  rw[hyes] at hk
  have hs:=(hs.front (sp [aE p2 0 [pt m 0 0],aE p3 0 [I co],aE p4 0 [.bool true]])).wP
  exact Em hs fun h hs=>qs (lN hs fun h hs=>jI (aC (b:=p4) (o:=0) hs rfl (hk _ hs.to)))
end Go.Proofs.YtajjljbmfdboaaaGreatDoor
end
section
namespace Go.Proofs.YtajjljbmfdboaaaGreatDoor
open Go Go.Ab Go.Hm Go.At Go.Mc Go.Ct
theorem cz {l done:List (Int×Int)} {y:Int×Int} {g:Int} (hp:done++[y]<+:l) (hd:∀z∈done,z.1≠g) (hy:y.1=g):nP l g=some y.2:=by
 obtain⟨r,rfl⟩:=hp
 unfold nP
 rw[List.append_assoc,List.find?_append,List.find?_eq_none.2 (by simpa using hd)]
 simp[hy]
theorem Xb {l:List (Int×Int)} {g:Int} (hd:∀z∈l,z.1≠g):nP l g=none:=by
 unfold nP
 rw[List.find?_eq_none.2 (by simpa using hd)]
 rfl
set_option maxRecDepth 100000
variable {G:Bg} {h:AH} {L L':List HP} {Q:Value→AH→Prop} {Cf:bL} {m:Nat} {M:cR}
abbrev knX (G:Bg) (Cf:bL) (m:Nat) (M:cR) (p2 p4:Nat) (g v:Int) (e:Nat→Value) (d l:Nat) (st:LoopState×Option Code) (pr:Prop):HP:=
 sp [uI pr,jY Pr 194 (kD 218) 25 e d l st,sp [aE p2 0 [I g],aE p4 0 [I v]],bG G Cf m M]
theorem sI {l:List Nat} {s:Nat→lU} {i:Nat} {t:lU} (hi:i<l.length) (hs:Hs G h L) [k:dP (iT (l.getD i 0) Cf t) L L'] {N:List HP} [k2:dP (Da (oC Cf) l s i) L' N]:Hs G h (nV (oC Cf) l (bT s i t)::N):=xP hi (hs.cA (iT (l.getD i 0) Cf t) (Da (oC Cf) l s i))
theorem bK {α:Type} {s:Nat→α} {i:Nat}:bT s i (s i)=s:=by
 funext j
 unfold bT
 split
 ·rename_i e;rw[e]
 ·rfl
theorem fi {i:Nat} {g:Int} (hi:(i:Int)<Cf.aF) (hb:(M.cK i).known.length≤100) (hs:Hs G h L) [mm:Has (bG G Cf m) L M L'] (hk:∀h',Hs G h' (bG G Cf m M::L')→Q (I (M.known i g)) h'):Cl Pr K 194 [pt m 0 0,I i,I g] h Q:=by
 unfold cR.known at hk
 refine cW (dI (mm.of hs) fun p2 h hs=>bN hs fun p4 h hs=>aZ (b:=p4) hs rfl rfl rfl rfl fun h hs=>?_)
 obtain⟨x,hl,hs⟩:=cB (hs.front (bG G Cf m M))
 have hic:i<x.lq.length:=by have:=hl.2.2;omega
 refine aB (aA (aC (b:=m) (o:=0) hs rfl (Ep hs hic ?_)))
 have hs:=gF (R:=oC Cf) (l:=x.lq) (s:=M.cK) hic hs
 refine Zf (C:=Cf) (p:=x.lq.getD i 0) (s:=M.cK i) hb hs fun q h hs=>?_
 have hs:=sI (Cf:=Cf) (l:=x.lq) (s:=M.cK) (i:=i) (t:=M.cK i) hic hs
 rw[bK] at hs
 have hs:=bC (m:=m) (x:=x) M hl hs
 refine jX hs fun d h hs=>?_
 intro e he
 refine mG hs fun l h hs=>rT rfl ?_
 have hs:Hs G h (O3 q (M.cK i).known::knX G Cf m M p2 p4 g 0 e d l (.ready,none) (∀z∈([]:List (Int×Int)),z.1≠g)::mk d ()::L'):=by
  have hs:=(hs.cA (aE p2 0 [I g]) (aE p4 0 [I 0])).zB
  have hs:=hs.cJ (jY Pr 194 (kD 218) 25 e d l (.ready,none)) (sp [aE p2 0 [I g],aE p4 0 [I 0]]) (bG G Cf m M)
  have hs:=Hs.Ge (Hs.N9 (p:=∀z∈([]:List (Int×Int)),z.1≠g) (by simp) hs)
  exact hs.to
 refine(w9 (q:=q) (l:=(M.cK i).known) (by omega)).fold
  (X:=fun done=>knX G Cf m M p2 p4 g 0 e d l (.ready,none) (∀z∈done,z.1≠g)) (Z:=fun done y=>knX G Cf m M p2 p4 g y.2 e d l (.done,some (.exit 0)) (nP (M.cK i).known g=some y.2)) hs ?_ ?_ ?_
 ·intro done y h N hp hs
  obtain⟨hd,hs⟩:=fP hs
  have hs:=hs.wP
  have hs:=(hs.front (sp [aE p2 0 [I g],aE p4 0 [I 0]])).xA
  refine rW (rS hs) he (gU hs fun h hs=>aC (b:=p2) (o:=0) hs rfl (bH (aR (fun c1=>?_) (fun c1=>?_))))
  ·refine aZ (b:=p4) hs rfl rfl rfl rfl fun h hs=>iE hs fun h hs=> .inr ⟨rfl,?_⟩
   have hs:=(hs.cA (aE p2 0 [I g]) (aE p4 0 [I y.2])).zB
   have hs:=hs.cJ (jY Pr 194 (kD 218) 25 e d l (.done,some (.exit 0))) (sp [aE p2 0 [I g],aE p4 0 [I y.2]]) (bG G Cf m M)
   exact(Hs.Ge (Hs.N9 (p:=nP (M.cK i).known g=some y.2) (cz hp hd c1) hs)).to
  ·refine iE hs fun h hs=> .inl ⟨rfl,?_⟩
   have hs:=(hs.cA (aE p2 0 [I g]) (aE p4 0 [I 0])).zB
   have hs:=hs.cJ (jY Pr 194 (kD 218) 25 e d l (.ready,none)) (sp [aE p2 0 [I g],aE p4 0 [I 0]]) (bG G Cf m M)
   refine(Hs.Ge (Hs.N9 (p:=∀z∈done++[y],z.1≠g) ?_ hs)).to
   intro z hz
   rcases List.mem_append.1 hz with hz|hz
   ·exact hd z hz
   ·rw[List.mem_singleton.1 hz];exact c1
 ·intro v h hs
  obtain⟨hd,hs⟩:=fP (hs.front (knX G Cf m M p2 p4 g 0 e d l (.ready,none) (∀z∈(M.cK i).known,z.1≠g)))
  have hs:=hs.wP
  rw[Xb hd] at hk
  have hs:=(hs.front (sp [aE p2 0 [I g],aE p4 0 [I 0]])).xA
  exact mE hs fun h hs=>mC (aC (b:=p4) (o:=0) hs rfl (lN hs fun h hs=>jI (hk _ hs.to)))
 ·intro done y v h hp hs
  obtain⟨hd,hs⟩:=fP (hs.front (knX G Cf m M p2 p4 g y.2 e d l (.done,some (.exit 0)) (nP (M.cK i).known g=some y.2)))
  have hs:=hs.wP
  rw[hd] at hk
  have hs:=(hs.front (sp [aE p2 0 [I g],aE p4 0 [I y.2]])).xA
  exact Em hs fun h hs=>Hj rfl (aC (b:=p4) (o:=0) hs rfl (lN hs fun h hs=>jI (hk _ hs.to)))
end Go.Proofs.YtajjljbmfdboaaaGreatDoor
end
section
namespace Go.Proofs.YtajjljbmfdboaaaGreatDoor
open Go Go.Ab Go.Hm Go.At Go.Mc Go.Ct Go.Nt Go.Is
instance:Fx aJ.enc 9:=inferInstance
structure Gb (G:Bg):Prop where
 lim:Ob G 0 fB
 kin:Ob G 2 uY
 row:Ob G 3 hM
set_option maxRecDepth 100000
variable {G:Bg} {h:AH} {L L':List HP} {Q:Value→AH→Prop} {Cf:bL} {m:Nat} {M:cR}
theorem Cz {α:Type} {R:Nat→Nat→α→HP} {l:List Nat} {s:Nat→α} {i q:Nat} {t:α} (hi:i<l.length) (hs:Hs G h L) [k:dP (R i q t) L L'] {N:List HP} [k2:dP (Da R l s i) L' N]:Hs G h (nV R (l.set i q) (bT s i t)::N):=j4 hi (hs.cA (R i q t) (Da R l s i))
theorem By {F:fS} {l:List aJ} (h:(fS.send Cf F l).2≠0):(fS.send Cf F l).1=F:=by
 unfold fS.send at h ⊢
 split
 ·rfl
 ·rename_i hc
  rw[if_neg hc] at h
  cases hp:fS.F0 Cf.depth F l with
  |none=>rfl
  |some F'=>rw[hp] at h;exact absurd rfl h
theorem kl {i:Nat} {g:Int} (hC:Cf.Ok) (hG:Gb G) (hi:(i:Int)<Cf.aF) (hb:(M.cK i).known.length≤100) (hL:Wp Cf M.jE) (hs:Hs G h L) [mm:Has (bG G Cf m) L M L'] (hk:∀h',Hs G h' (bG G Cf m (M.walk Cf i g).1::L')→Q (I (M.walk Cf i g).2) h'):Cl Pr K 193 [pt m 0 0,I i,I g] h Q:=by
 unfold cR.walk at hk
 obtain⟨x,hl,hs⟩:=cB (mm.of hs)
 have hic:i<x.lq.length:=by have:=hl.2.2;omega
 refine cW (aB (aA (aC (b:=m) (o:=0) hs rfl (Ep hs hic ?_))))
 have hs:=gF (R:=oC Cf) (l:=x.lq) (s:=M.cK) hic hs
 refine A1 (C:=Cf) (p:=x.lq.getD i 0) (s:=M.cK i) hb hs fun q h hs=>?_
 refine Re (C:=Cf) (p:=q) (s:=M.cK i) hC hb hs fun h hs=>aG rfl (aG rfl (aY (aR (fun h1=>?_) (fun h1=>?_))))
 ·rw[if_pos h1] at hk
  have hs:=sI (Cf:=Cf) (l:=x.lq) (s:=M.cK) (i:=i) (t:=M.cK i) hic hs
  rw[bK] at hs
  exact hk _ (bC (m:=m) (x:=x) M hl hs).to
 rw[if_neg h1] at hk
 refine bW (aB (aA (aC (b:=m) (o:=0) hs rfl (aH (c:=(eU 6 i ((M.cK i).begin Cf g).2.1).enc) rfl (aH (c:=(eU 6 i ((M.cK i).begin Cf g).2.1).enc) rfl (dE (W:=9) (n:=1) (c:=1) hs rfl rfl rfl fun a h hs=>?_))))))
 have hs:=nL (enc:=aJ.enc) (x:=eU 6 i ((M.cK i).begin Cf g).2.1) hs
 refine Cx (C:=Cf) (f:=x.fb) (F:=M.jE) (l:=[eU 6 i ((M.cK i).begin Cf g).2.1]) (a:=some a) (c:=1) hC (hL.J7 hC) (by simp) hG.kin hG.lim hs fun h hs=>aY (aR (fun h2=>?_) (fun h2=>?_))
 ·dsimp only at hk
  rw[if_pos h2] at hk
  rw[By h2] at hs
  have hs:=sI (Cf:=Cf) (l:=x.lq) (s:=M.cK) (i:=i) (t:=M.cK i) hic hs
  rw[bK] at hs
  exact hk _ (bC (m:=m) (x:=x) M hl hs).to
 ·dsimp only at hk
  rw[if_neg h2] at hk
  refine bW (aB (aA (aC (b:=m) (o:=0) hs rfl (Mz hs hic fun h hs=>hk _ ?_))))
  have hs:=Cz (R:=oC Cf) (l:=x.lq) (s:=M.cK) (i:=i) (q:=q) (t:=((M.cK i).begin Cf g).1) hic hs
  have e:eX Cf x M.log.length=eX Cf {x with lq:=x.lq.set i q} M.log.length:=by unfold eX;rw[List.length_set]
  rw[e] at hs
  exact(bC (m:=m) (x:={x with lq:=x.lq.set i q}) ((M.dL (fS.send Cf M.jE [eU 6 i ((M.cK i).begin Cf g).2.1]).1).Ao i ((M.cK i).begin Cf g).1) ⟨hl.1,hl.2.1,by rw[List.length_set];exact hl.2.2⟩ hs).to
end Go.Proofs.YtajjljbmfdboaaaGreatDoor
end
section
namespace Go.Proofs.YtajjljbmfdboaaaGreatDoor
open Go Go.Ab Go.Hm Go.At Go.Mc Go.Ct Go.Nt Go.Is
set_option maxRecDepth 100000
variable {G:Bg} {h:AH} {L L':List HP} {Q:Value→AH→Prop} {Cf:bL} {m:Nat} {M:cR}
theorem Qb {l:List Nat} {S:Nat→aX} {i:Nat} {k:Value→Prop} (hi:i<l.length) (hs:Hs G h L) [mm:Has (nV sC l) L S L'] (hk:k (I (S i).world)):bA (mQ (pt (l.getD i 0) 0 0)) fun v=>bA (gZ 0 v) fun v=>bA (gZ 5 v) fun v=>bA (pN h v) k:=by
 have hs:=gF (R:=sC) (l:=l) (s:=S) hi hs
 obtain⟨a,c,hs⟩:=pA hs
 exact aB (aA (aA (aC (b:=l.getD i 0) (o:=0) hs rfl hk)))
theorem zI {l:List Nat} {s:Nat→jF} {i:Nat} {t:jF} (hi:i<l.length) (hs:Hs G h L) [k:dP (C.fO G (l.getD i 0) Cf i t) L L'] {N:List HP} [k2:dP (Da (oL G Cf) l s i) L' N]:Hs G h (nV (oL G Cf) l (bT s i t)::N):=xP hi (hs.cA (C.fO G (l.getD i 0) Cf i t) (Da (oL G Cf) l s i))
theorem mh {i:Nat} {line:Int} {wr:Bool} (hC:Cf.Ok) (hG:Gb G) (hi:(i:Int)<Cf.aF) (hb:mJ Cf (M.dC i)) (hL:Wp Cf M.jE) (hs:Hs G h L) [mm:Has (bG G Cf m) L M L'] (hk:∀h',Hs G h' (bG G Cf m (M.want Cf i line wr).1::L')→Q (I (M.want Cf i line wr).2) h'):Cl Pr K 196 [pt m 0 0,I i,I line,.bool wr] h Q:=by
 unfold cR.want at hk
 have hbd:Bd (M.dC i):=hb.bd (kK hC).2.2.2
 obtain⟨x,hl,hs⟩:=cB (mm.of hs)
 have hic:i<x.lc.length:=by have:=hl.1;omega
 have hik:i<x.lk.length:=by have:=hl.2.1;omega
 refine cW (aB (aA (aC (b:=m) (o:=0) hs rfl (D4 hs hik ?_))))
 have hs:=gF (R:=oL G Cf) (l:=x.lk) (s:=M.dC) hik hs
 refine C.Yk (C:=Cf) (core:=(i:Int)) (c:=x.lk.getD i 0) (s:=M.dC i) hC hbd hs fun q h hs=>?_
 refine aB (aA (aC (b:=m) (o:=0) hs rfl (Ei hs hic (Qb (l:=x.lc) (S:=M.aS) hic hs ?_))))
 refine C.uh (C:=Cf) (core:=(i:Int)) (c:=q) (s:=M.dC i) hC hbd hG.lim hG.row hs fun a c h hs=>aG rfl (aG rfl (aY (aR (fun h1=>?_) (fun h1=>?_))))
 ·rw[if_pos h1] at hk
  have hs:=zI (Cf:=Cf) (l:=x.lk) (s:=M.dC) (i:=i) (t:=M.dC i) hik hs
  rw[bK] at hs
  exact hk _ (bC (m:=m) (x:=x) M hl hs).to
 rw[if_neg h1] at hk
 have hs:Hs G h (qF a c (want Cf i (M.dC i) line (M.aS i).world wr).2.1::_):=hs
 refine bW (aB (aA (aC (b:=m) (o:=0) hs rfl ?_)))
 refine Cx (C:=Cf) (f:=x.fb) (F:=M.jE) (l:=(want Cf i (M.dC i) line (M.aS i).world wr).2.1) (a:=a) (c:=c) hC (hL.J7 hC) (by have:=r8 (C:=Cf) (core:=(i:Int)) (s:=M.dC i) (l:=line) (w:=(M.aS i).world) (wr:=wr);omega) hG.kin hG.lim hs fun h hs=>aY (aR (fun h2=>?_) (fun h2=>?_))
 ·dsimp only at hk
  rw[if_pos h2] at hk
  rw[By h2] at hs
  have hs:=zI (Cf:=Cf) (l:=x.lk) (s:=M.dC) (i:=i) (t:=M.dC i) hik hs
  rw[bK] at hs
  exact hk _ (bC (m:=m) (x:=x) M hl hs).to
 ·dsimp only at hk
  rw[if_neg h2] at hk
  refine bW (aB (aA (aC (b:=m) (o:=0) hs rfl (Yx hs hik fun h hs=>hk _ ?_))))
  have hs:=Cz (R:=oL G Cf) (l:=x.lk) (s:=M.dC) (i:=i) (q:=q) (t:=(want Cf i (M.dC i) line (M.aS i).world wr).1) hik hs
  have e:eX Cf x M.log.length=eX Cf {x with lk:=x.lk.set i q} M.log.length:=by unfold eX;rw[List.length_set]
  rw[e] at hs
  exact(bC (m:=m) (x:={x with lk:=x.lk.set i q}) ((M.dL (fS.send Cf M.jE (want Cf i (M.dC i) line (M.aS i).world wr).2.1).1).sY i (want Cf i (M.dC i) line (M.aS i).world wr).1) ⟨hl.1,by rw[List.length_set];exact hl.2.1,hl.2.2⟩ hs).to
end Go.Proofs.YtajjljbmfdboaaaGreatDoor
end
end
