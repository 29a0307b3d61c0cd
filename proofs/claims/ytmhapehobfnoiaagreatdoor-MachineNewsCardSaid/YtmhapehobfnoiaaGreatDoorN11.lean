/- A part of the proof. -/
import Derived.Test.YtmhapehobfnoiaaGreatDoorN10
import Derived.Test.YtmhapehobfnoiaaGreatDoorN7
import Derived.Test.YtmhapehobfnoiaaGreatDoorN9
import Derived.Test.YtmhapehobfnoiaaGreatDoorN6
section
open Go Go.Ab
attribute [local irreducible] bB Br ld1 A5 I7 Cd kT yC kI Xx qS zP Bo pT nL mH yV A1 Xb T1 P6 P5 Tb Uj Mx Tc W6 kQ tQ tE iB copyV kV V5 Vo W0 Ed iZ Rp Vn Uz lZ rG Ay yZ Cl C9 Ui qR qH iO eI bS bG
namespace Go.Proofs.YtmhapehobfnoiaaGreatDoor.A
open Go Go.Ab Go.Hm Go.At Go.Is
section
set_option maxRecDepth 100000
variable {G:Bg} {h:AH} {L L':List HP} {Q:Value->AH->Prop}
theorem Pz {v:Value} {a b:Int} {l:List Int} {e:TypeId} (B:l.length<1000) (q:∀t,Hs G t (yR G 1 e v (l.map fun x=>[I x])::L)->Q (.bool (within a b l)) t):
  ∀(f i:Nat) (h:AH),i+f=l.length->within a b l=within a b (l.drop i)->Hs G h (yR G 1 e v (l.map fun x=>[I x])::L)->Dd 46 1 [] Q [(I a),(I b),v,(I l.length),(I i)] h:=by
 intro f
 induction f with
 |zero=>
  intro i h y g k
  rw[List.drop_of_length_le (by omega)] at g
  refine bW (aT (aab ?_))
  have:=q _ k
  rw[g] at this
  exact this
 |succ f A=>
  intro i h y g k
  obtain⟨x,z,w⟩:=tM (l:=l) (i:=i) (by omega)
  rw[w] at g
  have u:within a b (x::l.drop (i+1))=(decide (a<=x/\x<=b)&&within a b (l.drop (i+1))):=rfl
  rw[u] at g
  refine bW (aT (aae (bW (pS k (x:=[I x]) (by simp[z]) rfl (aT (eE (fun c=>?_) (fun c=>mY (eE (fun d=>?_) (fun d=>?_)))))))))
  .have:=q _ k;rw[g,decide_eq_false (by omega)] at this;exact this
  .have:=q _ k;rw[g,decide_eq_false (by omega)] at this;exact this
  .rw[decide_eq_true (by omega),Bool.true_and] at g;exact bW (aad (A (i+1) h (by omega) g k))
theorem A2 {v:Value} {a b:Int} {l:List Int} {e:TypeId} (t:l.length<1000) (k:Hs G h (yR G 1 e v (l.map fun x=>[I x])::L)) (q:∀g,Hs G g (yR G 1 e v (l.map fun x=>[I x])::L)->Q (.bool (within a b l)) g):Cl Pr K 46 [I a,I b,v] h Q:=by
 obtain⟨w,y,u⟩:=uB k;refine cW ?_;have f:=Pz (L:=L) (a:=a) (b:=b) t q l.length 0 h (by omega) rfl k;rw[u] at f ⊢;simp only[List.length_map] at f ⊢;exact bU f
theorem Qq {k:Addr} {a b x:Int} {e:TypeId} (f:Hs G h (fT 1 e (some k) 1 (1,[I x])::L)) (q:∀g,Hs G g L->Q (.bool (decide (a<=x/\x<=b))) g):Cl Pr K 46 [I a,I b,.slice (some k) 1 1] h Q:=by
 have f:=sy (l:=[x].map fun x=>[I x]) (by simp) rfl rfl f;refine A2 (l:=[x]) (by simp) f fun g f=>?_;have:=q _ f.tail;rw[show within a b [x]=decide (a<=x/\x<=b) by simp[within]];exact this
end
section
set_option maxRecDepth 100000
variable {G:Bg} {h:AH} {L L':List HP} {Q:Value->AH->Prop}
def sM (p:List Ins):List Value:=p.flatMap Ins.enc
theorem pe {p:List Ins} {i:Nat} (e:i<p.length):((sM p).drop (i*4)).take 4=(p.getD i ⟨0,0,0,0⟩).enc:=by
 have a:=(sW (W:=4) (l:=p.map Ins.enc) (i:=i) (x:=(p.getD i ⟨0,0,0,0⟩).enc) (by simp[Ins.enc]) (by simp[List.getD_eq_getElem?_getD,List.getElem?_eq_getElem e])).1;rw[<-a];rfl
theorem o9 {p:List Ins} {i:Nat} (f:i<p.length):(sM p)[i*4+0]?=some (I (p.getD i ⟨0,0,0,0⟩).op):=by
 have e:=pe f;have a:(((sM p).drop (i*4)).take 4)[0]?=some (I (p.getD i ⟨0,0,0,0⟩).op):=by rw[e];rfl
 rw[List.getElem?_take_of_lt (by omega),List.getElem?_drop] at a;exact a
theorem Kx {s:aJ} {b q c:Nat} {a:Option Addr} {at':Int} (u:0<=at') (f:Hs G h (aR b q (s.core++[.slice a s.prog.length c])::fT 4 76 a c (s.prog.length,sM s.prog)::L))
  (t:∀k,Hs G k (aR b q ((s.eY at').core++[.slice a s.prog.length c])::fT 4 76 a c (s.prog.length,sM s.prog)::L)->Q (.tuple ⟨[]⟩) k):Cl Pr K 50 [pt b q 0,I at'] h Q:=by
 refine cW (aN (aC (aC (ax f fun h f=>aN (aC (aS (b:=b) (o:=q) f rfl (bU (jM (eE (fun g=>?_) (fun g=>?_))))))))))
 .refine aN (aC (aC (ax (b:=b) (o:=q) f fun h f=>?_)));refine t _ ?_;have e:s.eY at'={s with at':=at',over:=true}:=by unfold aJ.eY zH;rw[aCx g]
  rw[e]
  exact f
 .obtain⟨n,rfl⟩:∃n:Nat,at'=n:=⟨at'.toNat,by omega⟩;refine aN (aC (aS (b:=b) (o:=q) f rfl (X7 (W:=4) (e:=76) (cs:=sM s.prog) f (by omega) (o9 (by omega)) (mW (aN (aC (aC (ax (b:=b) (o:=q) f fun h f=>?_))))))));refine t _ ?_;have e:s.eY n={s with at':=n,over:=decide ((s.prog.getD n ⟨0,0,0,0⟩).op=11)}:=by unfold aJ.eY zH;rw[aCw g];rfl
  rw[e]
  exact f
end
end Go.Proofs.YtmhapehobfnoiaaGreatDoor.A
namespace Go.Proofs.YtmhapehobfnoiaaGreatDoor
open Go Go.Ab Go.Hm Go.At Go.Mc
section
theorem Ml {m:Mon} {g:Nat}:g∈m.running↔g<16/\(m.runs g).isSome:=by unfold Mon.running;simp[List.mem_filter]
set_option maxRecDepth 100000
variable {G:Bg} {h:AH} {L L' M:List HP} {Q:Value->AH->Prop} {C:bA} {m:Mon} {p:Nat}
end
end Go.Proofs.YtmhapehobfnoiaaGreatDoor
namespace Go.Proofs.YtmhapehobfnoiaaGreatDoor.A
open Go Go.Ab Go.Hm Go.At Go.Is
section
set_option maxRecDepth 100000
variable {G:Bg} {h:AH} {L L':List HP} {Q:Value->AH->Prop}
abbrev ue (pm:Nat) (C:bA) (v:Value) (a:Option Addr) (n c mb:Nat):HP:=aR pm 0 (C.enc++[v,.slice a n c,pt mb 0 0])
end
section
set_option maxRecDepth 100000
variable {G:Bg} {h:AH} {L L':List HP} {Q:Value->AH->Prop}
end
section
set_option maxRecDepth 100000
variable {G:Bg} {h:AH} {L L':List HP} {Q:Value->AH->Prop}
def mB (b o:Nat) (s:aJ):HP:=Bb fun x:Option Addr×Nat=>sp [aR b o (s.core++[.slice x.1 s.prog.length x.2]),fT 4 76 x.1 x.2 (s.prog.length,sM s.prog)]
theorem Vb {b o:Nat} {s:aJ} (e:Hs G h (mB b o s::L)):∃a c,Hs G h (aR b o (s.core++[.slice a s.prog.length c])::fT 4 76 a c (s.prog.length,sM s.prog)::L):=by
 obtain⟨⟨a,c⟩,e⟩:=e.yS;exact⟨a,c,e.unpack⟩
theorem Ej {b o c:Nat} {a:Option Addr} {s:aJ} (e:Hs G h (aR b o (s.core++[.slice a s.prog.length c])::fT 4 76 a c (s.prog.length,sM s.prog)::L)):Hs G h (mB b o s::L):=
 Hs.vK (A:=fun x:Option Addr×Nat=>sp [aR b o (s.core++[.slice x.1 s.prog.length x.2]),fT 4 76 x.1 x.2 (s.prog.length,sM s.prog)]) (a,c) (Hs.pack (A:=[_,_]) e)
structure AtA where
 b:Nat
 o:Nat
 cap:Nat
 a:Option Addr
 c:Nat
 mb:Nat
def Az (G:Bg) (pm:Nat) (m:AM) (x:AtA):List HP:=[ue pm m.cfg (.slice (some ⟨x.b,x.o,none⟩) m.cfg.aD.toNat x.cap) x.a m.dU.length x.c x.mb,fT 1 3 x.a x.c (m.dU.length,m.dU.map I),fY G m.cfg.lines x.mb m.cfg m.mem,
  hole G 8 127 (some ⟨x.b,x.o,none⟩) x.cap m.cfg.aD.toNat x.b x.o,hJ m.cfg.aD.toNat fun i=>mB x.b (x.o+i*8) (m.aB i)]
def O3 (G:Bg) (pm:Nat) (m:AM):HP:=Bb fun x:AtA=>sp (Az G pm m x)
theorem Zq {pm:Nat} {m:AM} (e:Hs G h (O3 G pm m::L)):∃b o cap a c mb,Hs G h (ue pm m.cfg (.slice (some ⟨b,o,none⟩) m.cfg.aD.toNat cap) a m.dU.length c mb::fT 1 3 a c (m.dU.length,m.dU.map I)::fY G m.cfg.lines mb m.cfg m.mem::
  hole G 8 127 (some ⟨b,o,none⟩) cap m.cfg.aD.toNat b o::hJ m.cfg.aD.toNat (fun i=>mB b (o+i*8) (m.aB i))::L):=by
 obtain⟨⟨b,o,cap,a,c,mb⟩,e⟩:=e.yS
 exact⟨b,o,cap,a,c,mb,e.unpack⟩
theorem I8 {pm:Nat} {m:AM} {b o cap c mb:Nat} {a:Option Addr} (e:Hs G h (ue pm m.cfg (.slice (some ⟨b,o,none⟩) m.cfg.aD.toNat cap) a m.dU.length c mb::fT 1 3 a c (m.dU.length,m.dU.map I)::fY G m.cfg.lines mb m.cfg m.mem::
  hole G 8 127 (some ⟨b,o,none⟩) cap m.cfg.aD.toNat b o::hJ m.cfg.aD.toNat (fun i=>mB b (o+i*8) (m.aB i))::L)):Hs G h (O3 G pm m::L):=
 Hs.vK (A:=fun x:AtA=>sp (Az G pm m x)) ⟨b,o,cap,a,c,mb⟩ (Hs.pack (A:=Az G pm m ⟨b,o,cap,a,c,mb⟩) e)
end
section
set_option maxRecDepth 100000
variable {G:Bg} {h:AH} {L L':List HP} {Q:Value->AH->Prop}
end
section
set_option maxRecDepth 100000
variable {G:Bg} {h:AH} {L L':List HP} {Q:Value->AH->Prop}
theorem nq {v:Value} {l:List (List Value)} {e:TypeId} (u:l.length<=100) (k:l.flatten.all dR=true) (t:Hs G h (yR G 1 e v l::L)) (q:∀a f g,Hs G g (fT 1 3 a f (l.length,l.flatten)::yR G 1 e v l::L)->Q (.slice a l.length f) g):Cl Pr K 48 [v] h Q:=
 cW (F8 (bytes:=8) t (by decide) rfl k (by omega) q)
theorem jr {v:Value} {l:List (List Value)} {e:TypeId} (u:l.length<=100) (k:l.flatten.all dR=true) (t:Hs G h (yR G 4 e v l::L)) (q:∀a f g,Hs G g (fT 4 76 a f (l.length,l.flatten)::yR G 4 e v l::L)->Q (.slice a l.length f) g):Cl Pr K 49 [v] h Q:=
 cW (F8 (bytes:=32) t (by decide) rfl k (by omega) q)
end
section
set_option maxRecDepth 100000
variable {G:Bg} {h:AH} {L L':List HP} {Q:Value->AH->Prop}
end
section
set_option maxRecDepth 100000
variable {G:Bg} {h:AH} {L L':List HP} {Q:Value->AH->Prop}
def tV (l:List Int):List (List Value):=l.map fun x=>[I x]
theorem nU (l:List Int):(tV l).length=l.length:=by simp[tV]
theorem Iy (l:List Int):(tV l).flatten=l.map I:=by
 unfold tV;induction l with
 |nil=>rfl
 |cons x l a=>rw[List.map_cons,List.flatten_cons,a];rfl
theorem Sq (l:List Int):(l.map I).all dR=true:=by
 induction l with
 |nil=>rfl
 |cons x l a=>rw[List.map_cons,List.all_cons,a];rfl
def Mu (p:List Ins):List (List Value):=p.map Ins.enc
theorem Gp (p:List Ins):(Mu p).length=p.length:=by simp[Mu]
theorem Iu (p:List Ins):(Mu p).flatten=sM p:=by
 unfold Mu sM;rw[List.flatMap_def]
theorem R8 (p:List Ins):(sM p).all dR=true:=by
 unfold sM;induction p with
 |nil=>rfl
 |cons x l a=>rw[List.flatMap_cons,List.all_append,a];rfl
def wO (G:Bg) (v:Value) (l:List Int):Prop:=oY G 1 v (tV l).length (fun i=>(tV l).getD i [])
def M7 (G:Bg) (v:Value) (p:List Ins):Prop:=oY G 4 v (Mu p).length (fun i=>(Mu p).getD i [])
structure dq (G:Bg) (pv wv ov vv:Value) (ps:List (List Ins)) (ws os vs:List Int):Prop where
 ps:∃vi:List Value,vi.length=ps.length/\oY G 1 pv (vi.map fun x=>[x]).length (fun i=>(vi.map fun x=>[x]).getD i [])/\∀(i:Nat) (v:Value) (p:List Ins),vi[i]?=some v->ps[i]?=some p->M7 G v p
 ws:wO G wv ws
 os:wO G ov os
 vs:wO G vv vs
theorem kN {v:Value} {l:List Int} (a:wO G v l) (e:Hs G h L):Hs G h (yR G 1 3 v (tV l)::L):=Bn (by simp[tV]) a e
theorem Lg {v:Value} {p:List Ins} (a:M7 G v p) (e:Hs G h L):Hs G h (yR G 4 76 v (Mu p)::L):=Bn (by simp[Mu,Ins.enc]) a e
theorem sB {W n:Nat} {v:Value} {at':Nat->List Value} {k:Value->Prop} (f:oY G W v n at') (e:k (I n)):bB (mH v) k:=by
 obtain⟨a,c,rfl,_⟩:=f;exact bU e
theorem Si {_C:bA} {pv:Value} {t2 t3 t4 t5:Value} {t:List Value} {ps:List (List Ins)} (K:t.length=ps.length) (A:oY G 1 pv (t.map fun x=>[x]).length (fun i=>(t.map fun x=>[x]).getD i []))
  (y:∀(i:Nat) (v:Value) (p:List Ins),t[i]?=some v->ps[i]?=some p->M7 G v p) (w:Ob G 1 rT) (J:ps.length<=1000)
  (E:oK ps≠0->∀k,Hs G k L->Q (.tuple ⟨[.pointer none,I (oK ps)]⟩) k) (F:oK ps=0->∀k,Hs G k L->Dd 12 5 [] Q [pv,t2,t3,t4,t5] k):
  ∀(f i:Nat) (h:AH),i+f=ps.length->oK ps=oK (ps.drop i)->Hs G h L->Dd 12 3 [] Q [pv,t2,t3,t4,t5,pv,(I ps.length),(I i)] h:=by
 intro f
 induction f with
 |zero=>
  intro i h z a g
  rw[List.drop_of_length_le (by omega)] at a
  exact bW (aT (aab (F a _ g)))
 |succ f D=>
  intro i h z a g
  obtain⟨p,B,u⟩:=tM (l:=ps) (i:=i) (by omega)
  obtain⟨v,q,_⟩:=tM (l:=t) (i:=i) (by omega)
  rw[u,oK] at a
  have g:=Bn (e:=3) (by simp) A g
  refine bW (aT (aae (bW (pS g (x:=[v]) (by simp[q]) rfl (Au (p:=p) w (Lg (y i v p q B) g.tail) fun h g=>bV rfl (bV rfl (cZ (eE (fun c=>?_) (fun c=>?_)))))))))
  .rw[aCx c] at a;rw[<-a];exact E (by rw[a];exact c) _ g.tail
  .rw[aCw c] at a;exact bW (aad (D (i+1) h (by omega) a g.tail))
theorem Sw {C:bA} (hC:C.Ok) {t1 t2 t3 t5 vv:Value} {mb:Nat} {vs:List Int} (w:wO G vv vs) (u:Ob G 0 jK) (A:vs.length=C.lines*2)
  (k:∀g,Hs G g (fY G C.lines mb C (words iC vs 0)::L)->Dd 12 11 [] Q [t1,t2,t3,t5,(pt mb 0 0)] g):
  ∀(f i:Nat) (mem:Nat->Ln) (h:AH),i+f=vs.length->words iC vs 0=words mem (vs.drop i) i->Hs G h (fY G C.lines mb C mem::L)->Dd 12 9 [] Q [t1,t2,t3,t5,(pt mb 0 0),vv,(I vs.length),(I i)] h:=by
 have v:=bA.eO hC
 intro f
 induction f with
 |zero=>
  intro i mem h t e a
  rw[List.drop_of_length_le (by omega),words] at e
  rw[e] at k
  exact bW (aT (aab (k _ a)))
 |succ f z=>
  intro i mem h t e a
  obtain⟨x,y,q⟩:=tM (l:=vs) (i:=i) (by omega)
  rw[q,words] at e
  have a:=kN w a
  refine bW (aT (aae (bW (pS a (x:=[I x]) (by simp[tV,y]) rfl (H7 hC u a.tail (by omega) fun h a=>cZ (aab (bW (aad (z (i+1) _ h (by omega) e a)))))))))
end
end Go.Proofs.YtmhapehobfnoiaaGreatDoor.A
namespace Go.Proofs.YtmhapehobfnoiaaGreatDoor.H
open Go Go.Ab Go.Hm
section
set_option maxRecDepth 100000
variable {G:Bg} {h:AH} {L L':List HP}
section
variable {hb p mb b o cap l:Nat} {C:bA} {H:kO} {n:aH} {r:Row} {m:Ln} {Q:Value->AH->Prop}
end
end
section
set_option maxRecDepth 100000
variable {G:Bg} {h:AH} {L L':List HP}
end
section
set_option maxRecDepth 100000
variable {G:Bg} {h:AH} {L L':List HP}
end
section
set_option maxRecDepth 100000
variable {G:Bg} {h:AH} {L L':List HP}
theorem dt {C:bA} {hb mb b o cap:Nat} {x:Int} {Q:Value->AH->Prop} (f:Hs G h L) [m:Has (aR hb 0) L (Bh mb C b o cap) L'] (e:Q (.bool (decide (C.has x))) h):Cl Pr K 115 [pt hb 0 0,I x] h Q:=by
 refine cW (Ls (iM (jM (eE (fun a=>?_) (fun a=>?_)))));refine aN (aC (aS f rfl (bU (aT ?_))));show Q _ _;rw[show decide (x<(C.lines:Int))=decide (C.has x) from decide_eq_decide.2 ⟨fun h=>⟨a,h⟩,fun h=>h.2⟩];exact e;show Q _ _;rw[show false=decide (C.has x) from(decide_eq_false (fun h=>a h.1)).symm];exact e
theorem pj {C:bA} {H:kO} {b o l:Nat} (a:l<C.lines) (e:Hs G h L) [k:cT (hJ C.lines fun i=>oA b (o+i*25) (H i).1) L L']:Hs G h (oA b (o+l*25) (H l).1::V1 b o C.lines H l::L'):=
 (e.front (hJ C.lines fun i=>oA b (o+i*25) (H i).1)).pW l a
theorem lh (C:bA) (H:kO) (hb mb b o cap:Nat) {a e f g:List HP} (k:Hs G h L) [q:cT (aR hb 0 (Bh mb C b o cap)) L a] [t:cT (fY G C.lines mb C (fun i=>(H i).2)) a e]
  [u:cT (hole G 25 222 (some ⟨b,o,none⟩) cap C.lines b o) e f] [v:cT (hJ C.lines fun i=>oA b (o+i*25) (H i).1) f g]:Hs G h (sF G hb C H::g):=
 vN (mb:=mb) (b:=b) (o:=o) (cap:=cap) (k.perm (q.perm.trans ((t.perm.trans ((u.perm.trans (v.perm.cons _)).cons _)).cons _)))
section
variable {C:bA} {hb mb b o cap p l:Nat} {H:kO} {n:aH} {Q:Value->AH->Prop}
end
end
section
set_option maxRecDepth 100000
variable {G:Bg} {h:AH} {L L':List HP}
section
variable {C:bA} {hb mb b o cap p l:Nat} {H:kO} {n:aH} {Q:Value->AH->Prop}
end
section
variable {C:bA} {hb mb b o cap p l:Nat} {H:kO} {n:aH} {r:Row} {Q:Value->AH->Prop} {j:Int->Int->Int×Bool} {jv:Value}
end
end
end Go.Proofs.YtmhapehobfnoiaaGreatDoor.H
end
namespace Go.Proofs.YtmhapehobfnoiaaGreatDoor
open Go Go.Ab Go.Hm Go.At Go.Mc
section
set_option maxRecDepth 100000
attribute [local irreducible] bB Br ld1 A5 I7 Cd kT yC kI Xx qS zP Bo pT nL mH yV A1 Xb T1 P6 P5 Tb Uj Mx Tc W6 kQ tQ tE iB copyV kV V5 Vo W0 Ed iZ Rp Vn Uz lZ rG Ay yZ Cl C9 Ui qR qH iO eI bS bG
variable {G:Bg} {h:AH} {L L' M:List HP} {Q:Value->AH->Prop} {C:bA} {m:Mon} {p:Nat}
end
end Go.Proofs.YtmhapehobfnoiaaGreatDoor
section
open Go Go.Ab
attribute [local irreducible] bB Br ld1 A5 I7 Cd kT yC kI Xx qS zP Bo pT nL mH yV A1 Xb T1 P6 P5 Tb Uj Mx Tc W6 kQ tQ tE iB copyV kV V5 Vo W0 Ed iZ Rp Vn Uz lZ rG Ay yZ Cl C9 Ui qR qH iO eI bS bG
namespace Go.Proofs.YtmhapehobfnoiaaGreatDoor
open Go Go.Ab Go.Hm Go.At Go.Mc
section
set_option maxRecDepth 100000
variable {G:Bg} {h:AH} {L L' M:List HP} {Q:Value->AH->Prop} {C:bA} {m:Mon} {p:Nat}
end
section
set_option maxRecDepth 100000
variable {G:Bg} {h:AH} {L L' M:List HP} {Q:Value->AH->Prop} {C:bA} {m:Mon} {p:Nat}
theorem B0 {ov:Value} {os:List Int} {k:Value->Prop} (e:A.wO G ov os) (a:k (I os.length)):bB (mH ov) k:=A.sB e (by rw[A.nU];exact a)
theorem jI {α:Type} {l:List α} {i:Nat} (h:i<l.length):∃x,l[i]?=some x/\l.drop i=x::l.drop (i+1):=⟨l[i],by simp,List.drop_eq_getElem_cons h⟩
def oB (os:List Int):List dT:=os.map fun o=>⟨o,false⟩
theorem Lo {ov:Value} {os:List Int} (t:A.wO G ov os) (z:os.length<=16) (u:∀o∈os,0<=o/\o<=4) {t0:Value} (k:∀e,Hs G e L->Dd 41 4 [] Q [t0,ov] e):
  ∀(f i:Nat) (h:AH),i+f=os.length->Hs G h L->Dd 41 2 [] Q [t0,ov,ov,(I os.length),(I i)] h:=by
 intro f
 induction f with
 |zero=>intro i h q a;exact bW (aT (aab (k _ a)))
 |succ f w=>
  intro i h q a
  obtain⟨x,g,y⟩:=jI (l:=os) (i:=i) (by omega)
  have v:=u x (List.mem_of_getElem? g)
  have a:=A.kN t a
  exact bW (aT (aae (bW (pS a (x:=[I x]) (by simp[A.tV,g]) rfl (aT (aab (mY (aab (bW (aad (w (i+1) h (by omega) a.tail)))))))))))
theorem Xs {os:List Int} {i:Nat} {x:Int} (a:os[i]?=some x):(oB (os.take i)++List.replicate (os.length - i) gA).set i ⟨x,false⟩=oB (os.take (i+1))++List.replicate (os.length - (i+1)) gA:=by
 obtain⟨g,f⟩:=List.getElem?_eq_some_iff.1 a;have e:(oB (os.take i)).length=i:=by simp[oB];omega
 rw[List.set_append_right _ _ (by omega),e,Nat.sub_self,show os.length - i=(os.length - (i+1))+1 by omega,List.replicate_succ,List.set_cons_zero,List.take_add_one,a];simp[oB]
theorem Xc {ov:Value} {os:List Int} (hC:C.Ok) (k:A.wO G ov os) (S:os.length=C.aG.toNat) (B:∀o∈os,0<=o/\o<=4) (a:Hs G h L) (J:∀q y,Hs G y (uO C q ⟨oB os,fun _=>none⟩::L)->Q (.tuple ⟨[pt q 0 0,I 0]⟩) y):Cl Pr K 41 [I C.aD,ov] h Q:=by
 have P:=hC.1;have E:=hC.2.1;refine cW (aT (aab (mY (aab (B0 k (aT (aab (B0 k (mY (aab (bW (B0 k ?_))))))))))));refine Lo k (by omega) B ?_ os.length 0 h (by omega) a;intro h a;refine bW (B0 k (Va (by omega) a fun t h a=>bV rfl (bV rfl (cZ (aab (bW (ji a fun b h a=>?_)))))));refine cQ (c:=[pt t 0 0,I C.aD,mP b]) rfl (fZ a fun q h a=>B0 k ?_);have loop:∀(f i:Nat) (h:AH),i+f=os.length->Hs G h (wQ t (oB (os.take i)++List.replicate (os.length - i) gA)::aR q 0 [pt t 0 0,I C.aD,mP b]::uS b (fun _=>none)::L)->Dd 41 7 [] Q [(pt q 0 0),ov,(I os.length),(I i)] h:=by
  intro f;induction f with
  |zero=>
   intro i h F a;refine bW (aT (aab (J _ _ ?_)));have u:i=os.length:=by omega
   subst u;rw[List.take_length,Nat.sub_self,List.replicate_zero,List.append_nil] at a;have a:Hs G h (aR q 0 [pt t 0 0,I C.aD,mP b]::wQ t (oB os)::uS b (fun _=>none)::L):=a.to;exact rI (m:=⟨oB os,fun _=>none⟩) a
  |succ f O=>
   intro i h F a;obtain⟨x,v,R⟩:=jI (l:=os) (i:=i) (by omega);have w:=B x (List.mem_of_getElem? v);have a:=A.kN k a;refine bW (aT (aae (bW (pS a (x:=[I x]) (by simp[A.tV,v]) rfl (aN (aC (ae q a rfl (cQ (c:=(⟨x,false⟩:dT).enc) rfl (W8 (x:=⟨x,false⟩) a.tail fun h a=>?_)))))))));have z:(oB (os.take i)++List.replicate (os.length - i) gA).length=os.length:=by simp[oB];omega
   have g:(0<=(i:Int)/\(i:Int)<(oB (os.take i)++List.replicate (os.length - i) gA).length)/\(0<=(⟨x,false⟩:dT).owner/\(⟨x,false⟩:dT).owner<=4):=⟨by omega,w⟩;rw[aCx g] at a;rw[aCx g];rw[Int.toNat_natCast,Xs v] at a;exact cZ (aab (bW (aad (O (i+1) h (by omega) a))))
 have e:(os.length:Int).toNat=os.length:=Int.toNat_natCast _;refine loop os.length 0 h (by omega) ?_;rw[e] at a;have D:List.replicate os.length gA=oB (os.take 0)++List.replicate (os.length - 0) gA:=rfl;rw[D] at a;exact a.to
end
end Go.Proofs.YtmhapehobfnoiaaGreatDoor
namespace Go.Proofs.YtmhapehobfnoiaaGreatDoor.C
open Go Go.Ab Go.Hm Go.Ct
section
set_option maxRecDepth 100000
variable {G:Bg} {h:AH} {L L':List HP}
end
section
set_option maxRecDepth 100000
variable {G:Bg} {h:AH} {L L' M:List HP}
def dE (b o:Nat) (l:List Th):HP:=Bb fun x:Option Addr×Nat=>sp [aR b o [.slice x.1 l.length x.2],fT 5 256 x.1 x.2 (l.length,eZ l)]
theorem Of {b o:Nat} {l:List Th} (e:Hs G h (dE b o l::L)):∃a c,Hs G h (aR b o [.slice a l.length c]::fT 5 256 a c (l.length,eZ l)::L):=by
 obtain⟨⟨a,c⟩,e⟩:=e.yS;exact⟨a,c,e.unpack⟩
theorem B5 (b o:Nat) (l:List Th) {a:Option Addr} {c n:Nat} {cs:List Value} {f g:List HP} (q:Hs G h L) [m:Has (aR b o) L [.slice a n c] f] [m2:Has (fT 5 256 a c) f (n,cs) g] (k:n=l.length) (e:cs=eZ l):Hs G h (dE b o l::g):=by
 subst k;subst e;exact Hs.vK (A:=fun x:Option Addr×Nat=>sp [aR b o [.slice x.1 l.length x.2],fT 5 256 x.1 x.2 (l.length,eZ l)]) (a,c) (Hs.pack (A:=[_,_]) (q.perm (m.perm.trans (m2.perm.cons _))))
structure TgA where
 b:Nat
 o:Nat
 cap:Nat
def Bk (ways n b o cap:Nat):List Value:=[I ways,.slice (some ⟨b,o,none⟩) n cap]
def Hg (G:Bg) (t ways n:Nat) (S:Nat->List Th):HP:=Bb fun x:TgA=>
 sp [aR t 0 (Bk ways n x.b x.o x.cap),hole G 1 253 (some ⟨x.b,x.o,none⟩) x.cap n x.b x.o,hJ n fun i=>dE x.b (x.o+i*1) (S i)]
theorem Yy {t ways n:Nat} {S:Nat->List Th} (a:Hs G h (Hg G t ways n S::L)):∃b o cap,Hs G h (aR t 0 (Bk ways n b o cap)::hole G 1 253 (some ⟨b,o,none⟩) cap n b o::hJ n (fun i=>dE b (o+i*1) (S i))::L):=by
 obtain⟨⟨b,o,cap⟩,a⟩:=a.yS;exact⟨b,o,cap,a.unpack⟩
theorem Ie {t ways n:Nat} {S:Nat->List Th} {b o cap:Nat} (a:Hs G h (aR t 0 (Bk ways n b o cap)::hole G 1 253 (some ⟨b,o,none⟩) cap n b o::hJ n (fun i=>dE b (o+i*1) (S i))::L)):Hs G h (Hg G t ways n S::L):=
 Hs.vK (A:=fun x:TgA=>sp [aR t 0 (Bk ways n x.b x.o x.cap),hole G 1 253 (some ⟨x.b,x.o,none⟩) x.cap n x.b x.o,hJ n fun i=>dE x.b (x.o+i*1) (S i)]) ⟨b,o,cap⟩ (Hs.pack (A:=[_,_,_]) a)
theorem Vj {no:Int} {b o a2 F D p:Nat} {l:List Th} {Q:Value->AH->Prop} (hb:l.length<=4):∀(r i:Nat) (h:AH) (L:List HP),i+r=l.length->ix no (l.take i)=none->Hs G h (aR p 0 [I no]::fT 5 256 (some ⟨a2,F,none⟩) D (l.length,eZ l)::L)->
  (∀K,Hs G K (aR p 0 [I no]::fT 5 256 (some ⟨a2,F,none⟩) D (l.length,eZ l)::L)->Q (.tuple ⟨[pt b o 0,I (ixI no l),I 0]⟩) K)->
  Dd 306 3 [] Q [(pt b o 0),(I (-1)),(.func (.func 327) #[] #[pt p 0 0]),(.slice (some ⟨a2,F,none⟩) l.length D),(I l.length),(I i)] h:=by
 have J:∀(i:Nat) (l:List Th) (t:Th),ix no (l.take i)=none->l[i]?=some t->ix no (l.take (i+1))=if t.1=no then some i else none:=by
  intro i;induction i with
  |zero=>
   intro l t _ v;cases l with
   |nil=>cases v
   |cons a l=>cases v;simp[ix]
  |succ i A=>
   intro l t y v;cases l with
   |nil=>cases v
   |cons a l=>
    simp only[List.take_succ_cons,ix] at y ⊢;by_cases f:a.1=no;rw[aCx f] at y;cases y;rw[aCw f] at y ⊢;rw[A l t (by simpa using y) (by simpa using v)];split<;>rfl
 have B:∀(l:List Th) (i j:Nat),ix no (l.take i)=some j->ix no l=some j:=by
  intro l;induction l with
  |nil=>intro i j h;simp[ix] at h
  |cons a l A=>
   intro i j h;cases i with
   |zero=>simp[ix] at h
   |succ i=>
    simp only[List.take_succ_cons,ix] at h ⊢;by_cases f:a.1=no;rw[aCx f] at h ⊢;exact h;rw[aCw f] at h ⊢;cases hx:ix no (l.take i) with
    |none=>rw[hx] at h;cases h
    |some k=>rw[hx] at h;rw[A i k hx];exact h
 intro r
 induction r with
 |zero=>
  intro i h L P E e w
  rw[List.take_of_length_le (by omega)] at E
  simp only[ixI,E] at w
  exact bW (aT (aab (w _ e)))
 |succ r A=>
  intro i h L P E e w
  have z:i<l.length:=by omega
  obtain⟨t,v⟩:∃t,l[i]?=some t:=⟨_,List.getElem?_eq_getElem z⟩
  refine bW (aT (aae (bW (fN z ?_))))
  obtain⟨R,S,O,u⟩:=(e.front (fT 5 256 (some ⟨a2,F,none⟩) D (l.length,eZ l))).iY (by omega)
  cases O
  refine vk u (by decide) (l:=Cg t) (by rw[Nat.add_zero];exact dh v) rfl ?_
  have u:=u.A8 (Iw l) (P8 l)
  refine fA u ?_
  intro q h e
  refine ap e ?_
  intro h e
  refine cA e (by decide) (l:=Cg t) rfl rfl ?_
  refine z6 (by kernel_rfl) (cW ?_)
  refine fZ e ?_
  intro T h e
  have g:=J i l t E v
  refine aC (aS e rfl (ae p e rfl (mW (eE (fun f=>?_) (fun f=>?_)))))
  .rw[aCx f] at g;have:=B _ _ _ g;simp only[ixI,this] at w;exact bW (w _ e.to)
  .rw[aCw f] at g;exact bW (aad (A (i+1) h L (by omega) g e.to w))
theorem Z9 {n:Nat} {no:Int} (a:0<n):setOf n no<n:=by
 unfold setOf;have:=Int.emod_lt_of_pos no (show(0:Int)<n by omega);have:=Int.emod_nonneg no (show(n:Int)≠0 by omega);omega
theorem J6 {t ways n b o cap:Nat} {no:Int} {l:List Th} {Q:Value->AH->Prop} (E:0<n) (B:0<=no) (hb:l.length<=4) (f:Hs G h L) [m:Has (aR t 0) L (Bk ways n b o cap) L'] [m2:Has (dE b (o+setOf n no*1)) L' l M]
  (y:∀q,Hs G q (aR t 0 (Bk ways n b o cap)::dE b (o+setOf n no*1) l::M)->Q (.tuple ⟨[pt b (o+setOf n no*1) 0,I (ixI no l),I 0]⟩) q):Cl Pr K 306 [pt t 0 0,I no] h Q:=by
 have f:Hs G h (aR t 0 (Bk ways n b o cap)::dE b (o+setOf n no*1) l::M):=f.perm (m.perm.trans (m2.perm.cons _))
 obtain⟨a,c,f⟩:=Of f.rL
 refine cW (fZ f ?_)
 intro p h f
 refine fM (dO (bW (aS f rfl (aT (aab (bW ?_))))))
 refine iN f ?_
 intro r h f
 have k:Hs G h (aR t 0 (Bk ways n b o cap)::_):=f.front (aR t 0 (Bk ways n b o cap))
 have A:no % (n:Int)=((setOf n no:Nat):Int):=by
  unfold setOf;have:=Int.emod_nonneg no (show(n:Int)≠0 by omega);omega
 refine aN (aC (ae t k rfl (ae p k rfl (aN (aC (ae t k rfl (bU (Uf B (by omega) ?_))))))))
 rw[A]
 refine fN (Z9 E) (aN ?_)
 have e:Hs G h (aR b (o+setOf n no*1) [.slice a l.length c]::_):=k.front (aR b (o+setOf n no*1) [.slice a l.length c])
 refine aS e rfl (bU ?_)
 by_cases u:l.length=0
 .have v:l=[]:=List.eq_nil_of_length_eq_zero u;subst v;refine bW (aT (aU (by simp) (y _ ?_)));exact(B5 b (o+setOf n no*1) [] (a:=a) (c:=c) e rfl rfl).to
 .have g:=e.front (fT 5 256 a c (l.length,eZ l));obtain⟨w,z,D,_⟩:=g.An (by omega);subst D;refine Vj (no:=no) (p:=p) hb l.length 0 h (aR t 0 (Bk ways n b o cap)::aR b (o+setOf n no*1) [.slice (some ⟨w,z,none⟩) l.length c]::M) (by omega) rfl e.to ?_;intro q f;refine y _ ?_;exact(B5 b (o+setOf n no*1) l (a:=some ⟨w,z,none⟩) (c:=c) f rfl rfl).to
end
section
set_option maxRecDepth 100000
variable {G:Bg} {h:AH} {L L' M:List HP}
end
section
set_option maxRecDepth 100000
variable {G:Bg} {h:AH} {L L' M:List HP}
end
section
set_option maxRecDepth 100000
variable {G:Bg} {h:AH} {L L' M:List HP}
end
section
set_option maxRecDepth 100000
variable {G:Bg} {h:AH} {L L' M:List HP}
theorem ly {b o n:Nat} (f:Hs G h (hJ n (fun i=>aR b (o+i*1) [.slice none 0 0])::L)):Hs G h (hJ n (fun i=>dE b (o+i*1) [])::L):=
 Hs.Rw (g:=fun i=>dE b (o+i*1) []) n _ (fun i _ _ _ f=>(B5 b (o+i*1) [] (a:=none) (c:=0) (n:=0) (cs:=[]) (sK (W:=5) (e:=256) f).rL rfl rfl)) f
theorem Nz {s w:Int} (t:1<=s/\s<=8) (u:1<=w/\w<=4) {Q:Value->AH->Prop} (e:Hs G h L) (q:∀p g,Hs G g (Hg G p w.toNat s.toNat (fun _=>[])::L)->Q (.tuple ⟨[pt p 0 0,I 0]⟩) g):Cl Pr K 93 [I s,I w] h Q:=by
 refine cW (aT (aab (mY (aab (aT (aab (mY (aab (J2 (by omega) (by omega) (by omega) ?_)))))))));dsimp only;refine jG e ?_ rfl ?_ ?_;rw[fH,qQ (W:=1) (fun _=>rfl)];rw[fH];exact sJ (fun _=>rfl) _;intro a h e;obtain⟨b,o,k,e⟩:=Hs.J5 (W:=1) rfl (by omega) e;cases k;have f:w=(w.toNat:Int):=by omega
 refine cQ (c:=Bk w.toNat s.toNat b o s.toNat) (by unfold Bk;rw[<-f];rfl) (fZ e ?_);intro p h e;refine q p h ?_;have e:=ly (e.front (hJ s.toNat fun i=>aR b (o+i*1) [.slice none 0 0]));exact Ie (b:=b) (o:=o) (cap:=s.toNat) e.to
end
section
def Yh (t:Nat) (C:bA) (core:Int) (s:eM):List Value:=pt t 0 0::(C.enc++[I core,I s.al,.bool s.aw,.bool s.xF,I s.gl,I s.gc.st,I s.gc.w,I s.gc.d.1,I s.gc.d.2,.bool s.wN])
set_option maxRecDepth 100000
variable {G:Bg} {h:AH} {L L' M:List HP}
def C7 (G:Bg) (c:Nat) (C:bA) (core:Int) (s:eM):HP:=Bb fun t:Nat=>sp [aR c 0 (Yh t C core s),Hg G t C.ways.toNat C.aF.toNat s.S]
theorem D6 {c:Nat} {C:bA} {core:Int} {s:eM} (a:Hs G h (C7 G c C core s::L)):∃t,Hs G h (aR c 0 (Yh t C core s)::Hg G t C.ways.toNat C.aF.toNat s.S::L):=by
 obtain⟨t,a⟩:=a.yS;exact⟨t,a.unpack⟩
theorem rK (c t:Nat) (C:bA) (core:Int) (s:eM) {cs:List Value} {S:Nat->List Th} {a e:List HP} (k:Hs G h L) [m:Has (aR c 0) L cs a] [m2:Has (Hg G t C.ways.toNat C.aF.toNat) a S e] (f:cs=Yh t C core s) (g:S=s.S):Hs G h (C7 G c C core s::e):=by
 subst f;subst g;exact Hs.vK (A:=fun t:Nat=>sp [aR c 0 (Yh t C core s),Hg G t C.ways.toNat C.aF.toNat s.S]) t (Hs.pack (A:=[_,_]) (k.perm (m.perm.trans (m2.perm.cons _))))
variable {C:bA} {core:Int} {c:Nat} {s:eM}
theorem dt (hC:C.Ok) {l:Int} {Q:Value->AH->Prop} (k:Ob G 0 jK) (a:Hs G h L) [m:Has (C7 G c C core) L s L'] (e:∀f,Hs G f (C7 G c C core s::L')->Q (.bool (sQ C l)) f):Cl Pr K 277 [pt c 0 0,I l] h Q:=by
 obtain⟨t,a⟩:=D6 (m.of a);refine cW (jM (eE (fun g=>?_) (fun g=>?_)));refine aN (aC (an c a (l:=C.enc) rfl rfl (nM hC k a fun h a=>aT ?_)));show Q _ _;rw[show decide (l<(C.lines:Int))=sQ C l from decide_eq_decide.2 (by omega)];exact e _ (rK c t C core s a rfl rfl);rw[show sQ C l=false from decide_eq_false (by omega)] at e;exact e _ (rK c t C core s a rfl rfl)
end
section
set_option maxRecDepth 100000
variable {G:Bg} {h:AH} {L L' M:List HP} {C:bA} {core:Int} {c:Nat} {s:eM}
end
section
set_option maxRecDepth 100000
variable {G:Bg} {h:AH} {L L' M:List HP} {C:bA} {core:Int} {c:Nat} {s:eM} {n:aH}
end
section
set_option maxRecDepth 100000
variable {G:Bg} {h:AH} {L L' M:List HP} {C:bA} {core:Int} {c:Nat} {s:eM} {n:aH}
end
section
set_option maxRecDepth 100000
variable {G:Bg} {h:AH} {L L' M:List HP} {C:bA} {core:Int} {c:Nat} {s:eM} {n:aH}
end
section
set_option maxRecDepth 100000
variable {G:Bg} {h:AH} {L L' M:List HP} {C:bA} {core:Int} {c:Nat} {s:eM} {n:aH}
theorem Yv {Q:Value->AH->Prop} (a:Hs G h L) [m:Has (C7 G c C core) L s L'] (f:∀e,Hs G e (C7 G c C core s::L')->Q (.tuple ⟨[I s.al,.bool s.aw,.bool s.xF]⟩) e):Cl Pr K 60 [pt c 0 0] h Q:=by
 obtain⟨t,a⟩:=D6 (m.of a);refine cW (fM (dO (iN a ?_)));intro g h a;refine(aN (aC (aC (ae c a rfl (aN (aC (aC (ae c a rfl (aN (aC (aC (ae c a rfl ?_))))))))))));exact f _ (rK c t C core s a rfl rfl).to
theorem Mf (hC:C.Ok) (e:0<=core/\core<C.aD) {Q:Value->AH->Prop} (u:Ob G 0 jK) (a:Hs G h L) (k:∀c f,Hs G f (C7 G c C core eM.new::L)->Q (.tuple ⟨[pt c 0 0,I 0]⟩) f):Cl Pr K 37 [.agg ⟨C.enc⟩,I core] h Q:=by
 refine cW (fZ a ?_);intro p h a;refine an p a (l:=C.enc) rfl rfl (mI u a fun h a=>?_);have g:=hC;unfold bA.Ok at g;rw[aCx hC];refine cZ (aab (bW (aT (aab (aC (ae p a rfl (jM (aab (bW ?_)))))))));refine aC (ae p a rfl (aC (ae p a rfl (Nz (by omega) (by omega) a fun t h a=>bV rfl (bV rfl (cZ (aab ?_)))))));refine an p a (l:=C.enc) rfl rfl (cQ (c:=Yh t C core eM.new) rfl (fZ a ?_));intro q h a;have a:=rK q t C core eM.new a rfl rfl;exact k q h a.to
end
section
set_option maxRecDepth 100000
variable {G:Bg} {h:AH} {L L' M:List HP} {C:bA} {core:Int} {c:Nat} {s:eM} {n:aH}
end
end Go.Proofs.YtmhapehobfnoiaaGreatDoor.C
namespace Go.Proofs.YtmhapehobfnoiaaGreatDoor.N
open Go Go.Ab Go.Hm Go.Nt
section
set_option maxRecDepth 100000
variable {G:Bg} {h:AH} {L L':List HP}
theorem Hh {b:Prop} [Decidable b] {Q:Value->AH->Prop} (a:b) (e:Q (.bool (decide b)) h):Q (.bool true) h:=by rwa [decide_eq_true a] at e
end
end Go.Proofs.YtmhapehobfnoiaaGreatDoor.N
end
namespace Go.Proofs.YtmhapehobfnoiaaGreatDoor.N
open Go Go.Ab Go.Hm Go.Nt
section
set_option maxRecDepth 100000
attribute [local irreducible] bB Br ld1 A5 I7 Cd kT yC kI Xx qS zP Bo pT nL mH yV A1 Xb T1 P6 P5 Tb Uj Mx Tc W6 kQ tQ tE iB copyV kV V5 Vo W0 Ed iZ Rp Vn Uz lZ rG Ay yZ Cl C9 Ui qR qH iO eI bS bG
variable {G:Bg} {h:AH} {L L':List HP}
end
end Go.Proofs.YtmhapehobfnoiaaGreatDoor.N
section
open Go Go.Ab
attribute [local irreducible] bB Br ld1 A5 I7 Cd kT yC kI Xx qS zP Bo pT nL mH yV A1 Xb T1 P6 P5 Tb Uj Mx Tc W6 kQ tQ tE iB copyV kV V5 Vo W0 Ed iZ Rp Vn Uz lZ rG Ay yZ Cl C9 Ui qR qH iO eI bS bG
namespace Go.Proofs.YtmhapehobfnoiaaGreatDoor
open Go Go.Ab Go.Hm Go.At Go.Mc
section
instance:Fx iL 2:=⟨fun _=>rfl,fun _=>rfl⟩
set_option maxRecDepth 100000
variable {G:Bg} {h:AH} {L L':List HP} {Q:Value->AH->Prop} {C:bA}
def Wz (C:bA) (s:iR) (a:Option Addr) (c:Nat):List Value:=[.bool s.gS,I s.bL,I s.at',.bool s.pP,I C.entries,I C.aG,.slice a s.known.length c]
def Ea (p:Nat) (C:bA) (s:iR):HP:=Bb fun x:Option Addr×Nat=>sp [aR p 0 (Wz C s x.1 x.2),ls iL 2 266 x.1 x.2 s.known]
theorem Mt {p:Nat} {s:iR} (e:Hs G h (Ea p C s::L)):∃a c,Hs G h (aR p 0 (Wz C s a c)::ls iL 2 266 a c s.known::L):=by
 obtain⟨⟨a,c⟩,e⟩:=e.yS;exact⟨a,c,e.Z0⟩
theorem vL (p:Nat) (C:bA) (s:iR) {a:Option Addr} {c:Nat} {cs:List Value} {l:List (Int×Int)} {e f:List HP} (q:Hs G h L) [m:Has (aR p 0) L cs e] [m2:Has (ls iL 2 266 a c) e l f] (g:cs=Wz C s a c) (k:l=s.known):Hs G h (Ea p C s::f):=by
 subst g;subst k;exact Hs.vK (A:=fun x:Option Addr×Nat=>sp [aR p 0 (Wz C s x.1 x.2),ls iL 2 266 x.1 x.2 s.known]) (a,c) (Hs.pack (A:=[_,_]) (q.perm (m.perm.trans (m2.perm.cons _))))
theorem U2 (hC:C.Ok) (g:Hs G h L) (q:∀p k,Hs G k (Ea p C By::L)->Q (.tuple ⟨[pt p 0 0,I 0]⟩) k):Cl Pr K 38 [I C.entries,I C.aG] h Q:=by
 have f:=hC;unfold bA.Ok at f;refine cW (aT (aab (mY (aab (aT (aab (mY (aab ?_))))))));refine cQ (c:=Wz C By none 0) rfl (fZ g fun p h g=>q _ _ ?_);exact vL p C By (a:=none) (c:=0) ((mR (enc:=iL) (W:=2) (e:=266) g)) rfl rfl
theorem Lw {a:Option Addr} {c:Nat} {l:List (Int×Int)} (hb:l.length<=100) (t:Hs G h L) [m:Has (ls iL 2 266 a c) L l L']
  (q:∀f g k,Hs G k (ls iL 2 266 f g l::ls iL 2 266 a c l::L')->Q (.slice f l.length g) k):Cl Pr K 108 [.slice a l.length c] h Q:=
 cW (Tx (e:=266) (show Hs G h (fT 2 266 a c (l.length,eL iL l)::L') from m.of t) (by omega) q)
end
section
set_option maxRecDepth 100000
variable {G:Bg} {h:AH} {L L':List HP} {Q:Value->AH->Prop} {C:bA}
end
section
set_option maxRecDepth 100000
variable {G:Bg} {h:AH} {L L':List HP} {Q:Value->AH->Prop} {C:bA}
theorem Ra {p:Nat} {s:iR} (e:Hs G h L) [m:Has (Ea p C) L s L'] (q:∀g a k,Hs G k (Ea p C s::L')->Q (.tuple ⟨[g,a,.bool s.gS]⟩) k):Cl Pr K 61 [pt p 0 0] h Q:=by
 obtain⟨a,c,e⟩:=Mt (m.of e);refine cW (fM (dO (aN (aC (aC (ae p e rfl (gM (uK (zW (fun f=>?_) (fun f=>?_))))))))));refine iN e fun r h e=>aN (aC (aC (ae p e rfl (aN (aC (aC (ae p e rfl ?_)))))));have:=q (I s.bL) (I s.at') h (vL p C s (a:=a) (c:=c) e rfl rfl).to;rw[f] at this;exact this;have:=q (I 0) (I 0) h (vL p C s (a:=a) (c:=c) e rfl rfl);rw[f] at this;exact this
def Ma (q:Nat) (l:List (Int×Int)):HP:=Bb fun x:Option Addr×Nat=>sp [aR q 0 [.slice x.1 l.length x.2],ls iL 2 266 x.1 x.2 l]
theorem Vd {p:Nat} {s:iR} (hb:s.known.length<=100) (e:Hs G h L) [m:Has (Ea p C) L s L'] (t:∀q k,Hs G k (Ma q s.known::Ea p C s::L')->Q (.func (.func 109) #[] #[pt q 0 0]) k):Cl Pr K 54 [pt p 0 0] h Q:=by
 obtain⟨a,c,e⟩:=Mt (m.of e);refine cW (fA e fun q h e=>Ls (iM (bW (aN (aC (ae p e rfl (Lw (a:=a) (c:=c) (l:=s.known) hb e fun f g h e=>ap (b:=q) e fun h e=>t q _ ?_)))))));have e:=vL p C s (a:=a) (c:=c) (e.cY (aR p 0 (Wz C s a c)) (ls iL 2 266 a c s.known)) rfl rfl;have e:=e.cY (aR q 0 [.slice f s.known.length g]) (ls iL 2 266 f g s.known);exact Hs.vK (A:=fun x:Option Addr×Nat=>sp [aR q 0 [.slice x.1 s.known.length x.2],ls iL 2 266 x.1 x.2 s.known]) (f,g) e.Ve
theorem qb {q:Nat} {l:List (Int×Int)} (hb:l.length<=1000):nw Pr K G 109 [] [pt q 0 0] (Ma q l) (l.map iL):=by
 intro u J y L h Q g R B D;obtain⟨⟨a,c⟩,g⟩:=g.yS;have g:=g.Z0;have k:∀{h:AH} {M:List HP},Hs G h (aR q 0 [.slice a l.length c]::ls iL 2 266 a c l::M)->Hs G h (Ma q l::M):=fun g=>Hs.vK (A:=fun x:Option Addr×Nat=>sp [aR q 0 [.slice x.1 l.length x.2],ls iL 2 266 x.1 x.2 l]) (a,c) g.Ve;refine cW (ae q g rfl (bU ?_));have loop:∀(f i:Nat) (h:AH),i+f=l.length->Hs G h (aR q 0 [.slice a l.length c]::ls iL 2 266 a c l::u ((l.drop i).map iL)::L)->Dd 109 1 [] Q [y,(.slice a l.length c),(I l.length),(I i)] h:=by
  intro f;induction f with
  |zero=>
   intro i h F g;rw[List.drop_of_length_le (by omega)] at g;exact bW (aT (aab (B _ _ (k g))))
  |succ f S=>
   intro i h F g;obtain⟨x,P,E⟩:=tM (l:=l) (i:=i) (by omega);rw[E,List.map_cons] at g;refine bW (aT (aae (bW (Ac (l:=l) (a:=a) (c:=c) (enc:=iL) (e:=266) g (by decide) (by omega) (by rw[Int.toNat_natCast];exact P) (fA g fun w h g=>ap g fun h g=>aC (ae w g rfl (aC (ae w g rfl ?_))))))));refine(R _ _ h _ (g.front (u (iL x::((l.drop (i+1)).map iL))))).mono fun v z O=>?_;rcases O with⟨rfl,t⟩|⟨rfl,t⟩;exact gM (dO (bW (aad (S (i+1) z (by omega) t.to))));exact gM (iM (D _ _ (k t.to)))
 exact loop l.length 0 h (by omega) (by rw[List.drop_zero];exact g)
end
section
instance:Fx aH.enc 9:=⟨fun _=>rfl,fun _=>rfl⟩
set_option maxRecDepth 100000
variable {G:Bg} {h:AH} {L L':List HP} {Q:Value->AH->Prop} {C:bA}
abbrev To (a:Option Addr) (c:Nat) (l:List aH):HP:=ls aH.enc 9 162 a c l
def B7 (C:bA) (p:Nat) (l:List aH):HP:=Bb fun x:Option Addr×Nat=>sp [aR p 0 [I C.depth,.slice x.1 l.length x.2],To x.1 x.2 l]
theorem eu {p:Nat} {l:List aH} (e:Hs G h (B7 C p l::L)):∃a c,Hs G h (aR p 0 [I C.depth,.slice a l.length c]::To a c l::L):=by
 obtain⟨⟨a,c⟩,e⟩:=e.yS;exact⟨a,c,e.Z0⟩
theorem Jn {p:Nat} {l:List aH} {a:Option Addr} {c:Nat} (e:Hs G h (aR p 0 [I C.depth,.slice a l.length c]::To a c l::L)):Hs G h (B7 C p l::L):=
 Hs.vK (A:=fun x:Option Addr×Nat=>sp [aR p 0 [I C.depth,.slice x.1 l.length x.2],To x.1 x.2 l]) (a,c) e.Ve
theorem U8 (hC:C.Ok) (a:Hs G h L) (g:∀p f,Hs G f (B7 C p []::L)->Q (.tuple ⟨[pt p 0 0,I 0]⟩) f):Cl Pr K 97 [I C.depth] h Q:=by
 have k:1<=C.depth/\C.depth<=16:=hC.2.2.2.2.1;refine cW (aT (aab (mY (aab (cQ (c:=[I C.depth,.slice none 0 0]) rfl (fZ a fun p h a=>g _ _ ?_))))));have a:=(mR (enc:=aH.enc) (W:=9) (e:=162) a).rL;exact Jn a
theorem Li {a:Option Addr} {c:Nat} {l:List aH} (hb:l.length<=2^30) (q:Hs G h L) [m:Has (To a c) L l L']
  (k:∀f c' g,Hs G g (To f c' l::To a c l::L')->Q (.slice f l.length c') g):Cl Pr K 123 [.slice a l.length c] h Q:=
 cW (Tx (e:=162) (show Hs G h (fT 9 162 a c (l.length,eL aH.enc l)::L') from m.of q) (by omega) k)
def gq (q:Nat) (l:List aH):HP:=Bb fun x:Option Addr×Nat=>sp [aR q 0 [.slice x.1 l.length x.2],To x.1 x.2 l]
theorem ic {a:Option Addr} {c:Nat} {l:List aH} (e:Hs G h L) [m:Has (To a c) L l L'] (g:∀q f,Hs G f (gq q l::L')->Q (.func (.func 248) #[] #[pt q 0 0]) f):Cl Pr K 185 [.slice a l.length c] h Q:=by
 refine cW (fZ (m.of e) fun q h e=>g q h ?_);exact Hs.vK (A:=fun x:Option Addr×Nat=>sp [aR q 0 [.slice x.1 l.length x.2],To x.1 x.2 l]) (a,c) e.Ve
theorem zp {q:Nat} {l:List aH} (hb:l.length<=100000):nw Pr K G 248 [] [pt q 0 0] (gq q l) (l.map fun n=>[.agg ⟨n.enc⟩]):=by
 intro u J y L h Q g R B D;obtain⟨⟨a,c⟩,g⟩:=g.yS;have g:=g.Z0;have k:∀{h:AH} {M:List HP},Hs G h (aR q 0 [.slice a l.length c]::To a c l::M)->Hs G h (gq q l::M):=fun g=>Hs.vK (A:=fun x:Option Addr×Nat=>sp [aR q 0 [.slice x.1 l.length x.2],To x.1 x.2 l]) (a,c) g.Ve;refine cW (ae q g rfl (bU ?_));have loop:∀(f i:Nat) (h:AH),i+f=l.length->Hs G h (aR q 0 [.slice a l.length c]::To a c l::u ((l.drop i).map fun n=>[.agg ⟨n.enc⟩])::L)->Dd 248 1 [] Q [y,(.slice a l.length c),(I l.length),(I i)] h:=by
  intro f;induction f with
  |zero=>
   intro i h F g;rw[List.drop_of_length_le (by omega)] at g;exact bW (aT (aab (B _ _ (k g))))
  |succ f S=>
   intro i h F g;obtain⟨x,P,E⟩:=tM (l:=l) (i:=i) (by omega);rw[E,List.map_cons] at g;refine bW (aT (aae (bW (Ac (l:=l) (a:=a) (c:=c) (enc:=aH.enc) (e:=162) g (by decide) (by omega) (by rw[Int.toNat_natCast];exact P) (fA g fun w h g=>ap (b:=w) g fun h g=>an w g (l:=x.enc) rfl rfl ?_)))));refine(R _ _ h _ (g.front (u ([.agg ⟨x.enc⟩]::((l.drop (i+1)).map fun n=>[.agg ⟨n.enc⟩]))))).mono fun v z O=>?_;rcases O with⟨rfl,t⟩|⟨rfl,t⟩;exact gM (dO (bW (aad (S (i+1) z (by omega) t.to))));exact gM (iM (D _ _ (k t.to)))
 exact loop l.length 0 h (by omega) (by rw[List.drop_zero];exact g)
theorem Xf {p:Nat} {l:List aH} (hb:l.length<=1000) (e:Hs G h L) [m:Has (B7 C p) L l L'] (t:∀q f,Hs G f (gq q l::B7 C p l::L')->Q (.func (.func 248) #[] #[pt q 0 0]) f):Cl Pr K 142 [pt p 0 0] h Q:=by
 obtain⟨a,c,e⟩:=eu (m.of e);refine cW (fM (dO (aN (aC (ae p e rfl (Li (a:=a) (c:=c) (l:=l) (by omega) e fun g k h e=>ic (a:=g) (c:=k) (l:=l) e fun q h e=>t q h ?_))))));have e:Hs G h (aR p 0 [I C.depth,.slice a l.length c]::To a c l::gq q l::L'):=e.to;exact(Jn e).rL
end
end Go.Proofs.YtmhapehobfnoiaaGreatDoor
namespace Go.Proofs.YtmhapehobfnoiaaGreatDoor
open Go Go.Ab Go.Hm Go.At Go.Mc Go.Nt
section
theorem cz {k:Nat} (h:k<14):0<=Ut k/\Ut k<4:=by
 rcases k14 h with rfl|rfl|rfl|rfl|rfl|rfl|rfl|rfl|rfl|rfl|rfl|rfl|rfl|rfl<;>decide
theorem M5 {n:aH} (h:nf n.kind):xB n<4/\Ut n.kind.toNat=(xB n:Int):=by
 unfold nf at h;have:=cz (k:=n.kind.toNat) (by omega);unfold xB;omega
theorem ik {_α:Type} {n j:Nat} {g:Nat->Value} {v:Value} (q:j<n):gZ ((List.range n).map g) j [v]=(List.range n).map fun k=>if k=j then v else g k:=by
 rw[<-lS _ _ _ (by simp;omega)];apply List.ext_getElem?;intro i;unfold bJ;simp only[List.length_singleton];by_cases h:i<j;rw[List.append_assoc,List.getElem?_append_left (by simp;omega),List.getElem?_take_of_lt h,List.getElem?_map,List.getElem?_map];by_cases a:i<n;rw[List.getElem?_range a];simp;intro e;omega;omega;rw[List.append_assoc,List.getElem?_append_right (by simp;omega)];have t:min j n=j:=by omega
 simp only[List.length_take,List.length_map,List.length_range,t];by_cases f:i=j;subst f;rw[List.getElem?_append_left (by simp),Nat.sub_self,List.getElem?_map,List.getElem?_range q];simp;rw[List.getElem?_append_right (by rw[List.length_singleton];omega),List.getElem?_drop,List.length_singleton,show j+1+(i - j - 1)=i by omega,List.getElem?_map,List.getElem?_map];by_cases a:i<n;rw[List.getElem?_range a];simp[f];rw[List.getElem?_eq_none (by simp;omega)];rfl
set_option maxRecDepth 100000
variable {G:Bg} {h:AH} {L L' M:List HP} {Q:Value->AH->Prop} {C:bA}
def Hr (C:bA) (pl:Nat->Nat):List Value:=C.enc++(List.range 16).map fun k=>if k<4*C.aD.toNat then pt (pl k) 0 0 else .pointer none
theorem o7 {pl:Nat->Nat} {k:Nat} (a:k<16):(Hr C pl)[7+k]?=some (if k<4*C.aD.toNat then pt (pl k) 0 0 else .pointer none):=by
 unfold Hr;rw[List.getElem?_append_right (by simp[bA.enc])];simp[bA.enc,List.getElem?_range a]
abbrev Al (C:bA) (pl:Nat->Nat) (F:gJ) (k:Nat):HP:=B7 C (pl k) (F (k/4) (k % 4))
def nJ (C:bA) (f:Nat) (F:gJ):HP:=Bb fun pl:Nat->Nat=>sp [aR f 0 (Hr C pl),hJ (4*C.aD.toNat) (Al C pl F)]
theorem Pj {f:Nat} {F:gJ} (a:Hs G h (nJ C f F::L)):∃pl,Hs G h (aR f 0 (Hr C pl)::hJ (4*C.aD.toNat) (Al C pl F)::L):=by
 obtain⟨pl,a⟩:=a.yS;exact⟨pl,a.Z0⟩
theorem Bt {f:Nat} {F:gJ} {pl:Nat->Nat} (a:Hs G h (aR f 0 (Hr C pl)::hJ (4*C.aD.toNat) (Al C pl F)::L)):Hs G h (nJ C f F::L):=
 Hs.vK (A:=fun pl:Nat->Nat=>sp [aR f 0 (Hr C pl),hJ (4*C.aD.toNat) (Al C pl F)]) pl a.Ve
def vp (C:bA) (pl:Nat->Nat) (F:gJ) (k:Nat):HP:=sp (((List.range (4*C.aD.toNat)).erase k).map (Al C pl F))
theorem mv {F:gJ} {pl:Nat->Nat} {k:Nat} (a:k<4*C.aD.toNat) (e:Hs G h (hJ (4*C.aD.toNat) (Al C pl F)::L)):Hs G h (B7 C (pl k) (F (k/4) (k % 4))::vp C pl F k::L):=e.pW k a
theorem bt {F:gJ} {k j:Nat} {l:List aH}:(F.set (k/4) (k % 4) l) (j/4) (j % 4)=if j=k then l else F (j/4) (j % 4):=by
 unfold gJ.set;by_cases e:j=k;subst e;simp;rw[aCw e,aaa]
theorem u6 {F:gJ} {pl:Nat->Nat} {k:Nat} {l:List aH} (q:k<4*C.aD.toNat) (t:Hs G h (B7 C (pl k) l::vp C pl F k::L)):Hs G h (hJ (4*C.aD.toNat) (Al C pl (F.set (k/4) (k % 4) l))::L):=by
 refine Hs.qx (i:=k) (f:=Al C pl F) (g:=Al C pl (F.set (k/4) (k % 4) l)) q (fun j a=>?_) ?_;unfold Al;rw[bt,aCw a];have e:Al C pl (F.set (k/4) (k % 4) l) k=B7 C (pl k) l:=by unfold Al;rw[bt,aCx rfl]
 rw[e];exact t
theorem Qi {f:Nat} {pl:Nat->Nat} {x y:Int} (hC:C.Ok) (e:Hs G h L) [m:Has (aR f 0) L (Hr C pl) L'] (a:Q (if(0<=x/\x<C.aD)/\(0<=y/\y<4) then pt (pl (x.toNat*4+y.toNat)) 0 0 else .pointer none) h):Cl Pr K 141 [pt f 0 0,I x,I y] h Q:=by
 have u:=hC.1;refine cW (fM (dO (aT (eE (fun g=>?_) (fun g=>aN (aC (aC (ae f e rfl (jM (eE (fun k=>?_) (fun k=>aT (eE (fun q=>?_) (fun q=>jM (eE (fun t=>?_) (fun t=>?_)))))))))))))));rw[aaa] at a;exact a;rw[aaa] at a;exact a;rw[aaa] at a;exact a;rw[aaa] at a;exact a;rw[aac] at a;refine aN (aC (Sa (by omega) (by omega) (Sa (by omega) (by omega) (ae f e (v:=pt (pl (x.toNat*4+y.toNat)) 0 0) ?_ a))));rw[show 0+7+x.toNat*4+y.toNat*1=7+(x.toNat*4+y.toNat) by omega,o7 (by omega),aac]
end
section
set_option maxRecDepth 100000
variable {G:Bg} {h:AH} {L L' M:List HP} {Q:Value->AH->Prop} {C:bA}
end
end Go.Proofs.YtmhapehobfnoiaaGreatDoor
end
namespace Go.Proofs.YtmhapehobfnoiaaGreatDoor
open Go Go.Ab Go.Hm Go.At Go.Mc Go.Nt
section
theorem ju {k:Value->Prop} (a:k (.bool true)):bB (P6 .eql (.pointer none) (.pointer none)) k:=⟨_,rfl,a⟩
set_option maxRecDepth 100000
attribute [local irreducible] bB Br ld1 A5 I7 Cd kT yC kI Xx qS zP Bo pT nL mH yV A1 Xb T1 P6 P5 Tb Uj Mx Tc W6 kQ tQ tE iB copyV kV V5 Vo W0 Ed iZ Rp Vn Uz lZ rG Ay yZ Cl C9 Ui qR qH iO eI bS bG
variable {G:Bg} {h:AH} {L L' M:List HP} {Q:Value->AH->Prop} {C:bA}
theorem X2 {f:Nat} {F:gJ} {x y:Nat} (hC:C.Ok) (v:∀c w,(F c w).length<=500) (B:(x:Int)<C.aD) (D:y<4) (a:Hs G h L) [m:Has (nJ C f) L F L']
  (z:∀q t,Hs G t (gq q (F x y)::nJ C f F::L')->Q (.func (.func 248) #[] #[pt q 0 0]) t):Cl Pr K 89 [pt f 0 0,I x,I y] h Q:=by
 have A:=hC.1
 obtain⟨pl,a⟩:=Pj (m.of a)
 refine cW (Qi (C:=C) (pl:=pl) hC a ?_)
 rw[aac]
 have g:x*4+y<4*C.aD.toNat:=by omega
 have k:(x*4+y)/4=x/\(x*4+y) % 4=y:=by omega
 have a:=mv g a.rL
 rw[show((x:Int)).toNat*4+((y:Int)).toNat=x*4+y by omega]
 rw[k.1,k.2] at a
 refine Xf (C:=C) (l:=F x y) (by have:=v x y;omega) a fun q h a=>z q _ ?_
 have a:=u6 g (a.cY (B7 C (pl (x*4+y)) (F x y)) (vp C pl F (x*4+y)))
 rw[k.1,k.2] at a
 have u:F.set x y (F x y)=F:=by
  funext c w;unfold gJ.set;split;rename_i e;rw[e.1,e.2];rfl
 rw[u] at a
 have a:=a.cY (aR f 0 (Hr C pl)) (hJ (4*C.aD.toNat) (Al C pl F))
 exact(Bt a).to
def C5 (C:bA) (pl:Nat->Nat) (n:Nat):List Value:=C.enc++(List.range 16).map fun k=>if k<n then pt (pl k) 0 0 else .pointer none
theorem dw {pl:Nat->Nat} {n p:Nat} (q:n<16):gZ (C5 C pl n) (7+n) [pt p 0 0]=C5 C (aI pl n p) (n+1):=by
 unfold C5;have e:∀(A B:List Value) (j:Nat) (v:List Value),j+v.length<=B.length->gZ (A++B) (A.length+j) v=A++gZ B j v:=by
  intro A;induction A with
  |nil=>intro B j v g;simp
  |cons x A t=>intro B j v g;rw[List.cons_append,List.length_cons,show A.length+1+j=(A.length+j)+1 by omega];show x::gZ (A++B) (A.length+j) v=_;rw[t B j v g];rfl
 rw[show 7+n=C.enc.length+n by simp[bA.enc],e _ _ _ _ (by simp;omega),ik (_α:=Nat) q];congr 1;refine List.map_congr_left fun k _=>?_;by_cases a:k=n;subst a;rw[aCx rfl,aac,dJ];rw[aCw a];by_cases f:k<n;rw[aCx f,aac,bQ a];rw[aCw f,aaa]
theorem O8 {pl:Nat->Nat} {n:Nat}:(C5 C pl n).length=23:=by unfold C5;simp[bA.enc]
theorem pg {n p:Nat} {pl:Nat->Nat} {F:gJ} (a:Hs G h (B7 C p (F (n/4) (n % 4))::hJ n (Al C pl F)::L)):Hs G h (hJ (n+1) (Al C (aI pl n p) F)::L):=by
 refine Hs.qm ?_;have e:Al C (aI pl n p) F n=B7 C p (F (n/4) (n % 4)):=by unfold Al;rw[dJ]
 rw[e];have a:=a.rL;have a:=Bl (g:=Al C (aI pl n p) F) (fun j f=>by unfold Al;rw[bQ (by omega)]) a;exact a.rL
theorem Vi (hC:C.Ok) (t:Ob G 0 jK) (a:Hs G h L) (z:∀f y,Hs G y (nJ C f (fun _ _=>[])::L)->Q (.tuple ⟨[pt f 0 0,I 0]⟩) y):Cl Pr K 42 [.agg ⟨C.enc⟩] h Q:=by
 have B:=hC.1;refine cW (fZ a fun p h a=>an p a (l:=C.enc) rfl rfl (mI t a fun h a=>?_));rw[aCx hC];refine cZ (aab (bW (an p a (l:=C.enc) rfl rfl (cQ (c:=C5 C (fun _=>0) 0) rfl (fZ a fun f h a=>aC (ae p a rfl ?_))))));have inner:∀(k w x:Nat) (pl:Nat->Nat) (h:AH),w+k=4->(x:Int)<C.aD->(∀(pl:Nat->Nat) (h:AH),Hs G h (aR f 0 (C5 C pl (4*x+4))::aR p 0 C.enc::hJ (4*x+4) (Al C pl fun _ _=>[])::L)->Dd 42 6 [] Q [(pt p 0 0),(pt f 0 0),(I C.aD),(I x)] h)->
   Hs G h (aR f 0 (C5 C pl (4*x+w))::aR p 0 C.enc::hJ (4*x+w) (Al C pl fun _ _=>[])::L)->Dd 42 4 [] Q [(pt p 0 0),(pt f 0 0),(I x),(I C.aD),(I x),(I w)] h:=by
  intro k
  induction k with
  |zero=>
   intro w x pl h A g u a
   have:w=4:=by omega
   subst this
   exact bW (aT (aab (u pl h a)))
  |succ k v=>
   intro w x pl h A g u a
   refine bW (aT (aae (bW (aC (ae p a rfl (U8 hC a fun q h a=>bV rfl (bV rfl (cZ (aab (bW (aN (aC (vJ (by omega) (vJ (by omega) ?_))))))))))))))
   refine hZ (b:=f) (o:=0) a rfl (by rw[O8];exact Nat.ble_eq_true_of_le (by simp;omega)) rfl (by rw[O8];rfl) fun h a=>aad ?_
   rw[show 0+7+x*4+w*1=7+(4*x+w) by omega,dw (by omega)] at a
   refine v (w+1) x (aI pl (4*x+w) q) h (by omega) g u ?_
   have a:=a.cY (B7 C q []) (hJ (4*x+w) (Al C pl fun _ _=>[]))
   have a:=pg (F:=fun _ _=>[]) a
   exact(show Hs G h (aR f 0 (C5 C (aI pl (4*x+w) q) (4*x+(w+1)))::aR p 0 C.enc::hJ (4*x+(w+1)) (Al C (aI pl (4*x+w) q) fun _ _=>[])::L) from a.to)
 have outer:∀(k x:Nat) (pl:Nat->Nat) (h:AH),x+k=C.aD.toNat->Hs G h (aR f 0 (C5 C pl (4*x))::aR p 0 C.enc::hJ (4*x) (Al C pl fun _ _=>[])::L)->Dd 42 2 [] Q [(pt p 0 0),(pt f 0 0),(I C.aD),(I x)] h:=by
  intro k;induction k with
  |zero=>
   intro x pl h g a;refine bW (aT (aab (z f h ?_)));have e:x=C.aD.toNat:=by omega
   subst e;have a:Hs G h (aR f 0 (Hr C pl)::aR p 0 C.enc::hJ (4*C.aD.toNat) (Al C pl fun _ _=>[])::L):=a;exact(Bt (show Hs G h (aR f 0 (Hr C pl)::hJ (4*C.aD.toNat) (Al C pl fun _ _=>[])::L) from a.to))
  |succ k v=>
   intro x pl h g a;refine bW (aT (aae (bW ?_)));refine inner 4 0 x pl h (by omega) (by omega) (fun pl h a=>bW (aad (v (x+1) pl h (by omega) ?_))) a;exact(show Hs G h (aR f 0 (C5 C pl (4*(x+1)))::aR p 0 C.enc::hJ (4*(x+1)) (Al C pl fun _ _=>[])::L) from by rw[show 4*(x+1)=4*x+4 by omega];exact a)
 have a:=Hs.j0 (f:=Al C (fun _=>0) fun _ _=>[]) a;exact outer C.aD.toNat 0 (fun _=>0) h (by omega) (show Hs G h (aR f 0 (C5 C (fun _=>0) 0)::aR p 0 C.enc::hJ 0 (Al C (fun _=>0) fun _ _=>[])::L) from a.to)
end
end Go.Proofs.YtmhapehobfnoiaaGreatDoor
section
open Go Go.Ab
attribute [local irreducible] bB Br ld1 A5 I7 Cd kT yC kI Xx qS zP Bo pT nL mH yV A1 Xb T1 P6 P5 Tb Uj Mx Tc W6 kQ tQ tE iB copyV kV V5 Vo W0 Ed iZ Rp Vn Uz lZ rG Ay yZ Cl C9 Ui qR qH iO eI bS bG
namespace Go.Proofs.YtmhapehobfnoiaaGreatDoor
open Go Go.Ab Go.Hm Go.At Go.Mc Go.Nt
section
set_option maxRecDepth 100000
variable {G:Bg} {h:AH} {L L' M:List HP} {Q:Value->AH->Prop} {C:bA}
end
end Go.Proofs.YtmhapehobfnoiaaGreatDoor
namespace Go.Proofs.YtmhapehobfnoiaaGreatDoor
open Go Go.Ab Go.Hm Go.At Go.Is Go.Mc
section
instance:Fx Ins.enc 4:=⟨fun _=>rfl,fun _=>rfl⟩
set_option maxRecDepth 100000
variable {G:Bg} {h:AH} {L L' M:List HP} {Q:Value->AH->Prop} {s:aJ} {i p:Nat}
abbrev pz (a:Option Addr) (c:Nat) (l:List Ins):HP:=ls Ins.enc 4 76 a c l
def Qx (i:Nat) (s:aJ) (a:Option Addr) (c:Nat):List Value:=s.core++[I i,.slice a s.prog.length c]
def Kc (i:Nat) (p:Nat) (s:aJ):HP:=Bb fun x:Option Addr×Nat=>sp [aR p 0 (Qx i s x.1 x.2),pz x.1 x.2 s.prog]
theorem F5 (e:Hs G h (Kc i p s::L)):∃a c,Hs G h (aR p 0 (Qx i s a c)::pz a c s.prog::L):=by
 obtain⟨⟨a,c⟩,e⟩:=e.yS;exact⟨a,c,e.Z0⟩
theorem Bx (p i:Nat) (s:aJ) {a:Option Addr} {c:Nat} {cs:List Value} {l:List Ins} {e f:List HP} (q:Hs G h L) [m:Has (aR p 0) L cs e] [m2:Has (pz a c) e l f] (g:cs=Qx i s a c) (k:l=s.prog):Hs G h (Kc i p s::f):=by
 subst g;subst k;exact Hs.vK (A:=fun x:Option Addr×Nat=>sp [aR p 0 (Qx i s x.1 x.2),pz x.1 x.2 s.prog]) (a,c) (Hs.pack (A:=[_,_]) (q.perm (m.perm.trans (m2.perm.cons _))))
theorem ln {a:Option Addr} {c:Nat} {x:Int} {cs:List Value} (v:0<=x) (f:cs[8]?=some (.slice a s.prog.length c)) (k:Hs G h L) [m:Has (aR p 0) L cs L'] [m2:Has (pz a c) L' s.prog M] (g:∀u,Hs G u L->Q (.bool (zH s.prog x)) u):Cl Pr K 145 [pt p 0 0,I x] h Q:=by
 have t:Hs G h (aR p 0 cs::pz a c s.prog::M):=k.perm (m.perm.trans (m2.perm.cons _));unfold zH at g;refine cW (aT (aab (aN (aC (ae p k f (bU (jM (eE (fun q=>?_) (fun q=>?_)))))))));rw[aCx q] at g;exact g _ k;rw[aCw q] at g;refine aN (aC (ae p k f (y1 (l:=s.prog) (a:=a) (c:=c) (enc:=Ins.enc) (e:=76) (x:=yJ s.prog x) t v ?_ rfl (mW ?_))));unfold yJ;rw[List.getD_eq_getElem?_getD,List.getElem?_eq_getElem (by omega)];rfl;exact g _ k
theorem Kx {x:Int} (k:0<=x) (e:Hs G h L) [m:Has (Kc i p) L s L'] (g:∀f,Hs G f (Kc i p (s.eY x)::L')->Q (.tuple ⟨[]⟩) f):Cl Pr K 92 [pt p 0 0,I x] h Q:=by
 obtain⟨a,c,e⟩:=F5 (m.of e);refine cW (aN (aC (aC (ax (b:=p) (o:=0) e fun h e=>?_))));refine ln (s:=s) (a:=a) (c:=c) k rfl e fun h e=>aN (aC (aC (ax (b:=p) (o:=0) e fun h e=>g _ ?_)));exact Bx p i (s.eY x) (a:=a) (c:=c) e rfl rfl
end
section
set_option maxRecDepth 100000
variable {G:Bg} {h:AH} {L L' M:List HP} {Q:Value->AH->Prop} {s:aJ} {i p:Nat}
end
section
set_option maxRecDepth 100000
variable {G:Bg} {h:AH} {L L' M:List HP} {Q:Value->AH->Prop} {s:aJ} {i p:Nat}
end
section
set_option maxRecDepth 100000
variable {G:Bg} {h:AH} {L L' M:List HP} {Q:Value->AH->Prop} {s:aJ} {i p:Nat}
theorem T4 {α:Type} {enc:α->List Value} {l:List α}:(l.map enc).flatten=eL enc l:=by simp[eL,List.flatMap]
theorem J7 {v:Value} {e:TypeId} {l:List Ins} (hb:l.length<=1000) (f:Hs G h (yR G 4 e v (l.map Ins.enc)::L)) (k:∀a c g,Hs G g (pz a c l::yR G 4 e v (l.map Ins.enc)::L)->Q (.slice a l.length c) g):Cl Pr K 49 [v] h Q:=by
 refine cW (F8 (bytes:=32) (e:=76) f (by decide) (List.length_map ..) (by rw[T4];exact Jv) (by omega) fun a c h f=>k a c h ?_);rw[T4] at f;exact f
theorem Xp {v:Value} {w:Int} {e:TypeId} {pr:List Ins} (y:i<4) (z:0<=w/\w<=3) (t:Ob G 1 rT) (g:(gF pr).2=0) (f:Hs G h (yR G 4 e v (pr.map Ins.enc)::L))
  (u:∀p k,Hs G k (Kc i p (nX pr w)::yR G 4 e v (pr.map Ins.enc)::L)->Q (.tuple ⟨[pt p 0 0,I 0]⟩) k):Cl Pr K 36 [I i,I w,v] h Q:=by
 have q:pr.length<=32:=by
  unfold gF at g;split at g;cases g;omega
 refine cW (aT (aab (jM (aab (aT (aab (mY (aab (bW (Au t f fun h f=>bV rfl (bV rfl (cZ (aab (bW ?_))))))))))))))
 refine J7 (l:=pr) (by omega) f fun a c h f=>?_
 refine cQ (c:=Qx i ⟨fun _=>0,0,0,false,pr⟩ a c) rfl (fZ f fun p h f=>aN (aC (aC (ax (b:=p) (o:=0) f fun h f=>?_))))
 have f:Hs G h (aR p 0 (Qx i ⟨fun _=>0,0,w,false,pr⟩ a c)::pz a c pr::yR G 4 e v (pr.map Ins.enc)::L):=f
 have f:=Bx p i ⟨fun _=>0,0,w,false,pr⟩ (a:=a) (c:=c) f rfl rfl
 exact Kx (i:=i) (s:=⟨fun _=>0,0,w,false,pr⟩) (by omega) f fun h f=>u _ _ f
end
end Go.Proofs.YtmhapehobfnoiaaGreatDoor
namespace Go.Proofs.YtmhapehobfnoiaaGreatDoor
open Go Go.Ab Go.Hm Go.At Go.Mc Go.Ct
section
instance:Fx Ev.enc 7 where
 len _:=rfl
 cel _:=rfl
structure MN where
 lc:List Nat
 lk:List Nat
 lq:List Nat
 ac:Option Addr
 ak:Option Addr
 aq:Option Addr
 al:Option Addr
 cc:Nat
 ck:Nat
 cq:Nat
 cl:Nat
 hb:Nat
 mb:Nat
 fb:Nat
def Ad (Cf:bA) (x:MN) (n:Nat):List Value:=Cf.enc++[.slice x.ac x.lc.length x.cc,.slice x.ak x.lk.length x.ck,.slice x.aq x.lq.length x.cq,pt x.hb 0 0,pt x.mb 0 0,pt x.fb 0 0,.slice x.al n x.cl]
def Rt (Cf:bA) (x:MN):Prop:=x.lc.length=Cf.aD.toNat/\x.lk.length=Cf.aD.toNat/\x.lq.length=Cf.aD.toNat
abbrev tR:Nat->Nat->aJ->HP:=fun i p s=>Kc i p s
abbrev rE (G:Bg) (Cf:bA):Nat->Nat->eM->HP:=fun i p s=>C.C7 G p Cf i s
abbrev tS (Cf:bA):Nat->Nat->iR->HP:=fun _ p s=>Ea p Cf s
abbrev Hp (a:Option Addr) (c:Nat) (l:List Ev):HP:=ls Ev.enc 7 74 a c l
abbrev c7 (a:Option Addr) (c:Nat) (l:List Nat):HP:=ls pE 1 95 a c l
abbrev et (a:Option Addr) (c:Nat) (l:List Nat):HP:=ls pE 1 98 a c l
abbrev ij (a:Option Addr) (c:Nat) (l:List Nat):HP:=ls pE 1 101 a c l
def Fy (G:Bg) (Cf:bA) (m:Nat) (M:bY) (x:MN):List HP:=[Ck (Rt Cf x),aR m 0 (Ad Cf x M.log.length),c7 x.ac x.cc x.lc,et x.ak x.ck x.lk,ij x.aq x.cq x.lq,
  jT tR x.lc M.aB,jT (rE G Cf) x.lk M.dB,jT (tS Cf) x.lq M.dN,H.sF G x.hb Cf M.home,uO Cf x.mb M.bC,nJ Cf x.fb M.jS,Hp x.al x.cl M.log]
def fF (G:Bg) (Cf:bA) (m:Nat) (x:MN) (M:bY):HP:=sp (Fy G Cf m M x)
def eJ (G:Bg) (Cf:bA) (m:Nat) (M:bY):HP:=Bb fun x:MN=>sp (Fy G Cf m M x)
set_option maxRecDepth 100000
variable {G:Bg} {h:AH} {L L':List HP} {Q:Value->AH->Prop} {Cf:bA} {m:Nat} {M:bY}
theorem qY (a:Hs G h (eJ G Cf m M::L)):∃x,Rt Cf x/\Hs G h (aR m 0 (Ad Cf x M.log.length)::c7 x.ac x.cc x.lc::et x.ak x.ck x.lk::ij x.aq x.cq x.lq::
  jT tR x.lc M.aB::jT (rE G Cf) x.lk M.dB::jT (tS Cf) x.lq M.dN::H.sF G x.hb Cf M.home::uO Cf x.mb M.bC::nJ Cf x.fb M.jS::Hp x.al x.cl M.log::L):=by
 obtain⟨x,a⟩:=a.yS
 obtain⟨e,a⟩:=Hs.bc a.unpack
 exact⟨x,e,a⟩
theorem Sz {x:MN} (a:Rt Cf x) (e:Hs G h (aR m 0 (Ad Cf x M.log.length)::c7 x.ac x.cc x.lc::et x.ak x.ck x.lk::ij x.aq x.cq x.lq::
  jT tR x.lc M.aB::jT (rE G Cf) x.lk M.dB::jT (tS Cf) x.lq M.dN::H.sF G x.hb Cf M.home::uO Cf x.mb M.bC::nJ Cf x.fb M.jS::Hp x.al x.cl M.log::L)):Hs G h (eJ G Cf m M::L):=
 Hs.vK (A:=fun x:MN=>sp (Fy G Cf m M x)) x (Hs.pack (A:=Fy G Cf m M x) (Hs.vx a e))
theorem iE {x:MN} (M:bY) (B:Rt Cf x) {k q t u v w y z A a e:List HP} (D:Hs G h L) [E:cT (aR m 0 (Ad Cf x M.log.length)) L k] [F:cT (c7 x.ac x.cc x.lc) k q] [I:cT (et x.ak x.ck x.lk) q t] [J:cT (ij x.aq x.cq x.lq) t u] [K:cT (jT tR x.lc M.aB) u v] [O:cT (jT (rE G Cf) x.lk M.dB) v w] [P:cT (jT (tS Cf) x.lq M.dN) w y] [R:cT (H.sF G x.hb Cf M.home) y z] [S:cT (uO Cf x.mb M.bC) z A] [f:cT (nJ Cf x.fb M.jS) A a] [g:cT (Hp x.al x.cl M.log) a e]:Hs G h (eJ G Cf m M::e):=
 Sz (x:=x) B (D.perm (E.perm.trans ((F.perm.trans ((I.perm.trans ((J.perm.trans ((K.perm.trans ((O.perm.trans ((P.perm.trans ((R.perm.trans ((S.perm.trans ((f.perm.trans ((g.perm).cons _)).cons _)).cons _)).cons _)).cons _)).cons _)).cons _)).cons _)).cons _)).cons _)))
theorem gG {x:MN} (M:bY) (D:Rt Cf x) {k q t u v w y z B a e:List HP} (E:Hs G h L) [F:cT (aR m 0 (Ad Cf x M.log.length)) L k] [I:cT (c7 x.ac x.cc x.lc) k q] [J:cT (et x.ak x.ck x.lk) q t] [K:cT (ij x.aq x.cq x.lq) t u] [O:cT (jT tR x.lc M.aB) u v] [P:cT (jT (rE G Cf) x.lk M.dB) v w] [R:cT (jT (tS Cf) x.lq M.dN) w y] [S:cT (H.sF G x.hb Cf M.home) y z] [T:cT (uO Cf x.mb M.bC) z B] [f:cT (nJ Cf x.fb M.jS) B a] [g:cT (Hp x.al x.cl M.log) a e]:Hs G h (fF G Cf m x M::e):=
 Hs.pack (A:=Fy G Cf m M x) (Hs.vx D (E.perm (F.perm.trans ((I.perm.trans ((J.perm.trans ((K.perm.trans ((O.perm.trans ((P.perm.trans ((R.perm.trans ((S.perm.trans ((T.perm.trans ((f.perm.trans ((g.perm).cons _)).cons _)).cons _)).cons _)).cons _)).cons _)).cons _)).cons _)).cons _)).cons _))))
theorem fQ {x:MN} (a:Hs G h (fF G Cf m x M::L)):Rt Cf x/\Hs G h (aR m 0 (Ad Cf x M.log.length)::c7 x.ac x.cc x.lc::et x.ak x.ck x.lk::ij x.aq x.cq x.lq::
  jT tR x.lc M.aB::jT (rE G Cf) x.lk M.dB::jT (tS Cf) x.lq M.dN::H.sF G x.hb Cf M.home::uO Cf x.mb M.bC::nJ Cf x.fb M.jS::Hp x.al x.cl M.log::L):=Hs.bc a.unpack
theorem jd (a:Hs G h (eJ G Cf m M::L)):∃x,Hs G h (fF G Cf m x M::L):=a.yS
theorem Zs {x:MN} (a:Hs G h (fF G Cf m x M::L)):Hs G h (eJ G Cf m M::L):=Hs.vK (A:=fun x:MN=>sp (Fy G Cf m M x)) x a
theorem Zg {a:Option Addr} {c i:Nat} {l:List Nat} {k:Value->Prop} (q:Hs G h L) [t:Has (c7 a c) L l L'] (f:i<l.length) (g:k (pt (l.getD i 0) 0 0)):bB (kQ 1 (.slice a l.length c) (I i)) fun p=>bB (ld1 h p) k:=
 Yt (e:=95) (show Hs G h (c7 a c l::L') from t.of q) f g
theorem Yr {a:Option Addr} {c i:Nat} {l:List Nat} {k:Value->Prop} (q:Hs G h L) [t:Has (et a c) L l L'] (f:i<l.length) (g:k (pt (l.getD i 0) 0 0)):bB (kQ 1 (.slice a l.length c) (I i)) fun p=>bB (ld1 h p) k:=
 Yt (e:=98) (show Hs G h (et a c l::L') from t.of q) f g
theorem Yx {a:Option Addr} {c i:Nat} {l:List Nat} {k:Value->Prop} (q:Hs G h L) [t:Has (ij a c) L l L'] (f:i<l.length) (g:k (pt (l.getD i 0) 0 0)):bB (kQ 1 (.slice a l.length c) (I i)) fun p=>bB (ld1 h p) k:=
 Yt (e:=101) (show Hs G h (ij a c l::L') from t.of q) f g
theorem na {l:List Nat} {s:Nat->aJ} {i:Nat} {t:aJ} (a:i<l.length) (e:Hs G h L) [k:cT (Kc i (l.getD i 0) t) L L'] {N:List HP} [f:cT (Aw tR l s i) L' N]:Hs G h (jT tR l (aI s i t)::N):=qM a (e.cY (Kc i (l.getD i 0) t) (Aw tR l s i))
theorem la {a:Option Addr} {c:Nat} {l:List Ev} {v:Ev} {a2:Option Addr} {c2:Nat} {k:Value×AH->Prop} {N:List HP} (hb:l.length<=2^30) (e:Hs G h L) [w:Has (Hp a c) L l L'] [m2:cT (Hp a2 c2 [v]) L' N]
  (u:∀f g t,Hs G t (Hp f g (l++[v])::N)->k (.slice f (l++[v]).length g,t)):bB (iB 7 56 74 h (.slice a l.length c) (.slice a2 1 c2)) k:=by
 have e:=w.of e
 have q:Hs G h (Hp a c l::Hp a2 c2 [v]::N):=e.perm (m2.perm.cons _)
 exact tB (l:=l) (l2:=[v]) (a:=a) (c:=c) (a2:=a2) (c2:=c2) q (by simp;omega) fun f g h e=>u f g h e.rL.tail
end
section
set_option maxRecDepth 100000
variable {G:Bg} {h:AH} {L L':List HP} {Q:Value->AH->Prop} {Cf:bA} {m:Nat} {M:bY}
end
section
set_option maxRecDepth 100000
variable {G:Bg} {h:AH} {L L':List HP} {Q:Value->AH->Prop} {Cf:bA} {m:Nat} {x:MN} {M:bY}
abbrev z7 (G:Bg) (Cf:bA) (m:Nat) (x:MN) (M:bY) (p2 a f:Nat) (co:Int) (e:Nat->Value) (d l:Nat) (st:LoopState×Option Code) (b:Bool) (pr:Prop):HP:=
 sp [Ck pr,mD Pr 15 (mJ 58) 32 e d l st,sp [aR p2 0 [pt m 0 0],aR a 0 [I co],aR f 0 [.bool b]],fF G Cf m x M]
theorem V6 {co:Int} (hm:gR Cf M.bC) (f:Hs G h L) [mm:Has (fF G Cf m x) L M L'] (B:∀Y,Hs G Y (fF G Cf m x M::L')->Q (.bool (M.waits co)) Y):Cl Pr K 15 [pt m 0 0,I co] h Q:=by
 unfold bY.waits at B;refine cW (fZ (mm.of f) fun u h f=>fZ f fun w h f=>fA f fun t h f=>ae u f rfl (fM (dO ?_)));obtain⟨U,f⟩:=fQ (f.front (fF G Cf m x M));refine bW (ae u f rfl (aN (aC (ae m f rfl (Sc (C:=Cf) (m:=M.bC) f fun q qa qc h f=>?_)))));have f:=gG (m:=m) (x:=x) M U f;refine nB f fun d h f=>?_;intro e he;refine nI f fun l h f=>uA rfl ?_;have f:Hs G h (H.Xl 3 q qa qc (M.bC.running.map fun k:Nat=>(k:Int))::z7 G Cf m x M u w t co e d l (.ready,none) false (∀g∈([]:List Int),M.bC.qX co g.toNat=false)::mk d ()::L'):=by
  have f:=(f.eW (aR u 0 [pt m 0 0]) (aR w 0 [I co]) (aR t 0 [.bool false])).Mk;have f:=f.eW (mD Pr 15 (mJ 58) 32 e d l (.ready,none)) (sp [aR u 0 [pt m 0 0],aR w 0 [I co],aR t 0 [.bool false]]) (fF G Cf m x M);have f:=Hs.pk4 (Hs.vx (p:=∀g∈([]:List Int),M.bC.qX co g.toNat=false) (by simp) f);exact f.to
 refine(H.b0 (e:=3) (p:=q) (a:=qa) (c:=qc) (xs:=M.bC.running.map fun k:Nat=>(k:Int)) (by have:=List.length_filter_le (fun g=>(M.bC.runs g).isSome) (List.range 16);simp[Mon.running] at this ⊢;omega)).fold
  (X:=fun done=>z7 G Cf m x M u w t co e d l (.ready,none) false (∀g∈done,M.bC.qX co g.toNat=false)) (Z:=fun _ y=>z7 G Cf m x M u w t co e d l (.done,some .ret) true (y∈(M.bC.running.map fun k:Nat=>(k:Int))/\M.bC.qX co y.toNat=true)) f ?_ ?_ ?_
 .intro done y h N hp f;obtain⟨A,f⟩:=sA f;have f:=f.Gq;obtain⟨k,D,rfl⟩:∃k∈M.bC.running,(k:Int)=y:=by
   obtain⟨ys,W⟩:=hp;have:y∈M.bC.running.map fun k:Nat=>(k:Int):=by rw[<-W];simp
   obtain⟨k,h1,h2⟩:=List.mem_map.1 this;exact⟨k,h1,h2⟩
  obtain⟨r,O⟩:=Option.isSome_iff_exists.1 (Ml.1 D).2;have F:M.bC.run (k:Int)=some r:=by unfold Mon.run;rw[aac];exact O
  have E:M.bC.phase (k:Int)≠0:=by
   unfold Mon.phase;rw[F];have:=(hm.run k r O).2.2.1;dsimp only;omega
  have f:=(f.front (sp [aR u 0 [pt m 0 0],aR w 0 [I co],aR t 0 [.bool false]])).Gq;obtain⟨U,f⟩:=fQ (f.front (fF G Cf m x M));refine rW (F4 f) he (nO f fun h f=>ae u f rfl (aN (aC (ae m f rfl (ya (C:=Cf) (m:=M.bC) f fun a h f R α β=>?_)))));rw[R E,F,decide_eq_true E];have f:=gG (m:=m) (x:=x) M U f;refine bV rfl (bV rfl (fA f fun p9 h f=>dX (b:=p9) (vs:=xM r) f rfl rfl rfl rfl fun h f=>iM (aC (ae p9 f rfl (ae w f rfl (mW (eE (fun P=>?_) (fun P=>?_))))))));refine ap (b:=t) f fun h f=>tC f fun h f=> .inr ⟨rfl,?_⟩;have f:=(f.eW (aR u 0 [pt m 0 0]) (aR w 0 [I co]) (aR t 0 [.bool true])).Mk;have f:=f.eW (mD Pr 15 (mJ 58) 32 e d l (.done,some .ret)) (sp [aR u 0 [pt m 0 0],aR w 0 [I co],aR t 0 [.bool true]]) (fF G Cf m x M);refine(Hs.pk4 (Hs.vx (p:=((k:Int)∈(M.bC.running.map fun k:Nat=>(k:Int))/\M.bC.qX co ((k:Int)).toNat=true)) ⟨List.mem_map.2 ⟨k,D,rfl⟩,?_⟩ f)).to;unfold Mon.qX;rw[Int.toNat_natCast,O];exact decide_eq_true P
  .refine tC f fun h f=> .inl ⟨rfl,?_⟩;have f:=(f.eW (aR u 0 [pt m 0 0]) (aR w 0 [I co]) (aR t 0 [.bool false])).Mk;have f:=f.eW (mD Pr 15 (mJ 58) 32 e d l (.ready,none)) (sp [aR u 0 [pt m 0 0],aR w 0 [I co],aR t 0 [.bool false]]) (fF G Cf m x M);refine(Hs.pk4 (Hs.vx (p:=∀g∈done++[((k:Nat):Int)],M.bC.qX co g.toNat=false) ?_ f)).to;intro g z;rcases List.mem_append.1 z with z|z;exact A g z;rw[List.mem_singleton.1 z,Int.toNat_natCast];unfold Mon.qX;rw[O];exact decide_eq_false P
 intro v h f;obtain⟨A,f⟩:=sA (f.front (z7 G Cf m x M u w t co e d l (.ready,none) false (∀g∈M.bC.running.map (fun k:Nat=>(k:Int)),M.bC.qX co g.toNat=false)));have f:=f.Gq;have V:M.bC.calls co=false:=by
  unfold Mon.calls;rw[List.any_eq_false];intro g z;have:=A g (List.mem_map.2 ⟨g,z,rfl⟩);rw[Int.toNat_natCast] at this;rw[this];simp
 rw[V] at B;have f:=(f.front (sp [aR u 0 [pt m 0 0],aR w 0 [I co],aR t 0 [.bool false]])).Gq;exact oJ f fun h f=>oM (ap (b:=t) f fun h f=>tY f fun h f=>uU (ae t f rfl (B _ f.to)))
 .intro done y v h hp f;obtain⟨A,f⟩:=sA (f.front (z7 G Cf m x M u w t co e d l (.done,some .ret) true (y∈(M.bC.running.map fun k:Nat=>(k:Int))/\M.bC.qX co y.toNat=true)));have f:=f.Gq;have J:M.bC.calls co=true:=by
   unfold Mon.calls;rw[List.any_eq_true];obtain⟨k,S,T⟩:=List.mem_map.1 A.1;refine⟨k,S,?_⟩;have:=A.2;rw[<-T,Int.toNat_natCast] at this;exact this
  rw[J] at B;have f:=(f.front (sp [aR u 0 [pt m 0 0],aR w 0 [I co],aR t 0 [.bool true]])).Gq;exact Zc f fun h f=>uj (tY f fun h f=>uU (ae t f rfl (B _ f.to)))
theorem Q1 {co:Int} (g:gR Cf M.bC) (a:Hs G h L) [k:Has (eJ G Cf m) L M L'] (f:∀e,Hs G e (eJ G Cf m M::L')->Q (.bool (M.waits co)) e):Cl Pr K 15 [pt m 0 0,I co] h Q:=by
 obtain⟨x,a⟩:=jd (k.of a);exact V6 (x:=x) g a fun h a=>f _ (Zs a)
end
section
set_option maxRecDepth 100000
variable {G:Bg} {h:AH} {L L':List HP} {Q:Value->AH->Prop} {Cf:bA} {m:Nat} {M:bY}
theorem T5 {l:List Nat} {s:Nat->iR} {i:Nat} {t:iR} (a:i<l.length) (e:Hs G h L) [k:cT (Ea (l.getD i 0) Cf t) L L'] {N:List HP} [f:cT (Aw (tS Cf) l s i) L' N]:Hs G h (jT (tS Cf) l (aI s i t)::N):=qM a (e.cY (Ea (l.getD i 0) Cf t) (Aw (tS Cf) l s i))
theorem bH {α:Type} {s:Nat->α} {i:Nat}:aI s i (s i)=s:=by
 funext j;unfold aI;split;rename_i e;rw[e];rfl
end
end Go.Proofs.YtmhapehobfnoiaaGreatDoor
namespace Go.Proofs.YtmhapehobfnoiaaGreatDoor
open Go Go.Ab Go.Hm Go.At Go.Mc Go.Ct Go.Nt Go.Is
section
structure Gb (G:Bg):Prop where
 lim:Ob G 0 jK
 kin:Ob G 2 dc
 row:Ob G 3 su
set_option maxRecDepth 100000
variable {G:Bg} {h:AH} {L L':List HP} {Q:Value->AH->Prop} {Cf:bA} {m:Nat} {M:bY}
end
section
set_option maxRecDepth 100000
variable {G:Bg} {h:AH} {L L':List HP} {Q:Value->AH->Prop} {Cf:bA} {m:Nat} {M:bY}
theorem qg {l:List Nat} {s:Nat->eM} {i:Nat} {t:eM} (a:i<l.length) (e:Hs G h L) [k:cT (C.C7 G (l.getD i 0) Cf i t) L L'] {N:List HP} [f:cT (Aw (rE G Cf) l s i) L' N]:Hs G h (jT (rE G Cf) l (aI s i t)::N):=qM a (e.cY (C.C7 G (l.getD i 0) Cf i t) (Aw (rE G Cf) l s i))
end
section
set_option maxRecDepth 100000
variable {G:Bg} {h:AH} {L L':List HP} {Q:Value->AH->Prop} {Cf:bA} {m:Nat} {M:bY}
end
end Go.Proofs.YtmhapehobfnoiaaGreatDoor
namespace Go.Proofs.YtmhapehobfnoiaaGreatDoor
open Go Go.Ab Go.Hm Go.At Go.Mc Go.Ct Go.Nt
section
set_option maxRecDepth 100000
variable {G:Bg} {h:AH} {L L':List HP} {Q:Value->AH->Prop} {Cf:bA} {m:Nat} {M:bY}
end
section
set_option maxRecDepth 100000
variable {G:Bg} {h:AH} {L L':List HP} {Q:Value->AH->Prop} {Cf:bA} {m:Nat} {M:bY}
theorem j5 {l:List Nat} {S:Nat->aJ} {i:Nat} {k:Value->Prop} (f:i<l.length) (e:Hs G h L) [q:Has (jT tR l) L S L'] (g:k (.bool (S i).over)):bB (zP (pt (l.getD i 0) 0 0)) fun v=>bB (qS 0 v) fun v=>bB (qS 6 v) fun v=>bB (ld1 h v) k:=by
 have e:=pO (R:=tR) (l:=l) (s:=S) f e;obtain⟨a,c,e⟩:=F5 e;exact aN (aC (aC (aS (b:=l.getD i 0) (o:=0) e rfl g)))
end
end Go.Proofs.YtmhapehobfnoiaaGreatDoor
namespace Go.Proofs.YtmhapehobfnoiaaGreatDoor.H
open Go Go.Ab Go.Hm
section
set_option maxRecDepth 100000
variable {G:Bg} {h:AH} {L L':List HP}
theorem Zj {C:bA} {hb:Nat} {H:kO} {x:Int} {Q:Value->AH->Prop} (a:Hs G h L) [m:Has (sF G hb C) L H L'] (e:Hs G h (sF G hb C H::L')->Q (I (zB C H x)) h):Cl Pr K 63 [pt hb 0 0,I x] h Q:=by
 have e:=e (m.of a);obtain⟨mb,b,o,cap,a⟩:=yX (m.of a);unfold zB at e;refine cW (dt a (gM (uK (eE (fun f=>?_) (fun f=>?_)))));obtain⟨l,rfl⟩:=Int.eq_ofNat_of_zero_le f.1;have g:l<C.lines:=by have:=f.2;omega
 obtain⟨k,q,a⟩:=Jj (pj (H:=H) (b:=b) (o:=o) g a);rw[aCx f,Int.toNat_natCast] at e;exact aN (aC (aS a rfl (fN g (aC (aS a rfl (bU e))))));rw[aCw f] at e;exact e
end
section
set_option maxRecDepth 100000
variable {G:Bg} {h:AH} {L L':List HP}
theorem ar (n:Nat):(fun i=>(kU n i).2)=iC:=by funext i;unfold kU iC;split<;>rfl
theorem Ex {C:bA} (hC:C.Ok) {hb:Nat} {Q:Value->AH->Prop} (t:∀g,Hs G g (sF G hb C (kU C.lines)::L)->Q (.tuple ⟨[pt hb 0 0,I 0]⟩) g):∀(f n:Nat) (h:AH),n+f=C.lines->Hs G h (sF G hb C (kU n)::L)->Dd 39 3 [] Q [(pt hb 0 0),(I C.lines),(I n)] h:=by
 have u:=bA.eO hC;intro f;induction f with
 |zero=>
  intro n h v a;have:n=C.lines:=by omega
  subst this;exact bW (aT (aab (t _ a)))
 |succ f w=>
  intro n h v a;have e:n<C.lines:=by omega
  refine bW (aT (aae (bW ?_)));obtain⟨mb,b,o,cap,a⟩:=mi e a;obtain⟨y,z,a⟩:=Jj a;refine aN (aC (aS a rfl (fN e (aC (ax a ?_)))));intro h a;refine aad (w (n+1) h (by omega) ?_);have k:(kU n n).1={oW with owner:=0}:=by unfold kU;rw[aaa]
  have q:(kU n n).2=(0,0):=by unfold kU;rw[aaa]
  rw[k] at a;have a:=Z7 b (o+n*25) oW y z a rfl rfl rfl;have a:=cx hb C (kU n) n oW (0,0) (fun i=>(kU n i).2) mb b o cap e (by rw[<-q];exact jh.symm) a;rw[Xm] at a;exact a
theorem Qb {C:bA} (hC:C.Ok) {Q:Value->AH->Prop} (f:Ob G 0 jK) (e:Hs G h L) (t:∀hb k,Hs G k (sF G hb C (kU C.lines)::L)->Q (.tuple ⟨[pt hb 0 0,I 0]⟩) k):Cl Pr K 39 [.agg ⟨C.enc⟩] h Q:=by
 have u:=bA.eO hC;refine cW (fZ e ?_);intro p h e;refine cA e (by decide) (l:=C.enc) rfl rfl (mI f e fun h e=>?_);rw[aCx hC];refine cZ (aab (bW (cA e (by decide) (l:=C.enc) rfl rfl (Jb hC f e fun mb h e=>?_))));refine bV rfl (bV rfl (cZ (aab (bW (iN e ?_)))));intro w h e;refine cA e (by decide) (l:=C.enc) rfl rfl (cA e (by decide) (l:=C.enc) rfl rfl (nM hC f e fun h e=>rb (by omega) (by omega) ?_));dsimp only;refine zK e rfl rfl ?_ rfl ?_ ?_;rw[fH,qQ (W:=25) (fun _=>rfl)];rw[fH];exact sJ (fun _=>rfl) _;intro a h e;obtain⟨b,o,q,e⟩:=Hs.J5 (W:=25) rfl (by omega) e;cases q;refine cQ (c:=Bh mb C b o C.lines) rfl (Qr e rfl rfl ?_);intro hb h e;refine Kg ib (Kg (cA e (by decide) (l:=C.enc) rfl rfl (Ku (by simp[oO,bA.enc]))) (aN (aC (aS e rfl (bU ?_)))));refine Ex hC (t hb) C.lines 0 h (by omega) ?_;have e:=(e.front (hJ C.lines fun i=>aR b (o+i*25) [I 0,.bool false,.bool false,.bool false,.bool false,.slice none 0 0,.bool false,I 0,I 0,I 0,I 0,I 0,I 0,I 0,.bool false,I 0,I 0,.bool false,.bool false,.bool false,.bool false,.bool false,.bool false,I 0,I 0]));have e:=Hs.Rw (g:=fun i=>oA b (o+i*25) (kU 0 i).1) C.lines _ (fun i v h L e=>Ez {oW with owner:=0} (a:=none) (c:=0) (sK e).rL) e;rw[<-ar 0] at e;exact(lh C (kU 0) hb mb b o C.lines e).to
end
section
set_option maxRecDepth 100000
variable {G:Bg} {h:AH} {L L':List HP} {Q:Value->AH->Prop}
end
end Go.Proofs.YtmhapehobfnoiaaGreatDoor.H
namespace Go.Proofs.YtmhapehobfnoiaaGreatDoor.H
open Go Go.Ab Go.Hm Go.Mc
section
set_option maxRecDepth 100000
variable {G:Bg} {h:AH} {L L':List HP} {Q:Value->AH->Prop}
end
end Go.Proofs.YtmhapehobfnoiaaGreatDoor.H
namespace Go.Proofs.YtmhapehobfnoiaaGreatDoor
open Go Go.Ab Go.Hm Go.At Go.Mc Go.Ct Go.Nt
section
set_option maxRecDepth 100000
variable {G:Bg} {h:AH} {L L':List HP} {Q:Value->AH->Prop} {Cf:bA} {m:Nat} {M:bY}
end
section
set_option maxRecDepth 100000
variable {G:Bg} {h:AH} {L L':List HP} {Q:Value->AH->Prop} {Cf:bA} {m:Nat} {M:bY} {n:aH}
end
section
set_option maxRecDepth 100000
variable {G:Bg} {h:AH} {L L':List HP} {Q:Value->AH->Prop} {Cf:bA} {m:Nat} {M:bY} {n:aH}
end
section
set_option maxRecDepth 100000
variable {G:Bg} {h:AH} {L L':List HP} {Q:Value->AH->Prop} {Cf:bA} {m:Nat} {M:bY} {n:aH}
end
section
set_option maxRecDepth 100000
variable {G:Bg} {h:AH} {L L':List HP} {Q:Value->AH->Prop} {Cf:bA} {m:Nat} {M:bY}
end
section
set_option maxRecDepth 100000
variable {G:Bg} {h:AH} {L L':List HP} {Q:Value->AH->Prop} {Cf:bA} {m:Nat} {M:bY}
end
section
set_option maxRecDepth 100000
variable {G:Bg} {h:AH} {L L':List HP} {Q:Value->AH->Prop} {Cf:bA} {m N:Nat} {M:bY}
end
end Go.Proofs.YtmhapehobfnoiaaGreatDoor
namespace Go.Proofs.YtmhapehobfnoiaaGreatDoor.A
open Go Go.Ab Go.Hm Go.At Go.Is
section
set_option maxRecDepth 100000
variable {G:Bg} {h:AH} {L L':List HP} {Q:Value->AH->Prop}
abbrev zS:List Value:=[I 0,I 0,I 0,I 0,I 0,I 0,.bool false,.slice none 0 0]
theorem Qc {B p b o cap E c mb:Nat} {a:Option Addr} {C:bA} {pv wv:Value} {y:List Value} {ps:List (List Ins)} {ws:List Int} (hB:B<=4) (V:ps.length=B) (X:ws.length=B) (T:∀p∈ps,p.length<=32)
  (Z:y.length=ps.length) (S:oY G 1 pv (y.map fun x=>[x]).length (fun i=>(y.map fun x=>[x]).getD i [])) (J:∀(i:Nat) (v:Value) (p:List Ins),y[i]?=some v->ps[i]?=some p->M7 G v p) (W:wO G wv ws)
  (P:∀D,Hs G D (ue p C (.slice (some ⟨b,o,none⟩) B cap) a E c mb::hJ B (fun i=>mB b (o+i*8) (nX (ps.getD i []) (ws.getD i 0)))::L)->Q (.tuple ⟨[pt p 0 0,I 0]⟩) D):
  ∀(r i:Nat) (h:AH),i+r=B->Hs G h (ue p C (.slice (some ⟨b,o,none⟩) B cap) a E c mb::hJ B (fun j=>if j<i then mB b (o+j*8) (nX (ps.getD j []) (ws.getD j 0)) else aR b (o+j*8) zS)::L)->
  Dd 12 13 [] Q [pv,wv,(pt p 0 0),(I B),(I i)] h:=by
 intro r
 induction r with
 |zero=>
  intro i h k f
  obtain rfl:i=B:=by omega
  refine bW (aT (aab (P _ ?_)))
  exact(Bl (g:=fun j=>mB b (o+j*8) (nX (ps.getD j []) (ws.getD j 0))) (fun j O=>by rw[aCx O]) f.rL).rL
 |succ r Y=>
  intro i h K f
  have k:i<B:=by omega
  obtain⟨pp,q,_⟩:=tM (l:=ps) (i:=i) (by omega)
  obtain⟨v,t,_⟩:=tM (l:=y) (i:=i) (by omega)
  obtain⟨w,u,_⟩:=tM (l:=ws) (i:=i) (by omega)
  have U:pp.length<=32:=T pp (List.mem_of_getElem? q)
  have f:=(f.front (hJ B fun j=>if j<i then mB b (o+j*8) (nX (ps.getD j []) (ws.getD j 0)) else aR b (o+j*8) zS)).pW i k
  simp only[Nat.lt_irrefl,if_false] at f
  refine bW (aT (aae (bW (aN (aC (ae p f rfl (fN k ?_)))))))
  refine pS (Bn (e:=3) (by simp) S f) (x:=[v]) (by simp[t]) rfl ?_
  refine jr (by rw[Gp];omega) (by rw[Iu];exact R8 _) (Lg (J i v pp t q) f) fun z A h f=>?_
  rw[Gp,Iu] at f
  rw[Gp]
  refine aN (aC (ax (b:=b) (o:=o+i*8) f fun h f=>?_))
  refine pS (kN W f) (x:=[I w]) (by simp[tV,u]) rfl ?_
  refine aN (aC (aC (ax (b:=b) (o:=o+i*8) f fun h f=>?_)))
  have f:=f.sg (b:=b) (o:=o+i*8) (c:=(⟨fun _=>0,0,w,false,pp⟩:aJ).core++[.slice z pp.length A]) rfl
  refine Kx (s:=⟨fun _=>0,0,w,false,pp⟩) (a:=z) (c:=A) (by omega) (f.cY (aR b (o+i*8) ((⟨fun _=>0,0,w,false,pp⟩:aJ).core++[.slice z pp.length A])) (fT 4 76 z A (pp.length,sM pp))) fun h f=>aad ?_
  refine Y (i+1) h (by omega) ?_
  have f:=Ej (b:=b) (o:=o+i*8) (s:=(⟨fun _=>0,0,w,false,pp⟩:aJ).eY 0) f
  have e:(⟨fun _=>0,0,w,false,pp⟩:aJ).eY 0=nX (ps.getD i []) (ws.getD i 0):=by
   rw[List.getD_eq_getElem?_getD,List.getD_eq_getElem?_getD,q,u];rfl
  rw[e] at f
  have F:mB b (o+i*8) (nX (ps.getD i []) (ws.getD i 0))=(fun j=>if j<i+1 then mB b (o+j*8) (nX (ps.getD j []) (ws.getD j 0)) else aR b (o+j*8) zS) i:=by simp only[Nat.lt_succ_self,if_true]
  rw[F] at f
  have f:=f.Bz (n:=B) (i:=i) (fun j=>if j<i then mB b (o+j*8) (nX (ps.getD j []) (ws.getD j 0)) else aR b (o+j*8) zS) (fun j=>if j<i+1 then mB b (o+j*8) (nX (ps.getD j []) (ws.getD j 0)) else aR b (o+j*8) zS) k (fun j _ R=>by
   have:(j<i+1)=(j<i):=propext ⟨fun h=>by omega,fun h=>by omega⟩;simp only[this])
  exact f.to
theorem uF:∀{ps:List (List Ins)},oK ps=0->∀p∈ps,(gF p).2=0
 |[],_,p,a=>by simp at a
 |q::l,h,p,a=>by
  rw[oK] at h;split at h;rename_i e;exact absurd h e;rename_i e;rcases List.mem_cons.1 a with rfl|a;omega;exact uF h p a
theorem A9 {p:List Ins} (h:(gF p).2=0):p.length<=32:=by
 unfold gF at h;split at h;cases h;omega
theorem Q8 {C:bA} {pv wv ov vv:Value} {ps:List (List Ins)} {ws os vs:List Int} (P:ps.length<=1000/\ws.length<1000/\os.length<1000) (O:Ob G 0 jK) (V:Ob G 1 rT) (Z:dq G pv wv ov vv ps ws os vs) (f:Hs G h L)
  (t:wM C ps ws os vs≠0->∀q,Hs G q L->Q (.tuple ⟨[.pointer none,I (wM C ps ws os vs)]⟩) q)
  (D:wM C ps ws os vs=0->∀p q,Hs G q (O3 G p (Qf C ps ws os vs)::L)->Q (.tuple ⟨[pt p 0 0,I 0]⟩) q):Cl Pr K 12 [.agg ⟨C.enc⟩,pv,wv,ov,vv] h Q:=by
 obtain⟨⟨vi,R,z,F⟩,A,y,J⟩:=Z
 have lp:∀{k:Value->Prop},k (I ps.length)->bB (mH pv) k:=fun w=>sB z (by simpa [R] using w)
 have lw:∀{k:Value->Prop},k (I ws.length)->bB (mH wv) k:=fun w=>sB A (by simpa [nU] using w)
 have lo:∀{k:Value->Prop},k (I os.length)->bB (mH ov) k:=fun w=>sB y (by simpa [nU] using w)
 have S:∀{k:Value->Prop},k (I vs.length)->bB (mH vv) k:=fun w=>sB J (by simpa [nU] using w)
 unfold wM at t D
 refine cW (fZ f fun u h f=>cA f (by decide) (l:=C.enc) rfl rfl (mI O f fun h f=>?_))
 by_cases hC:C.Ok
 rotate_left
 .rw[aCx hC] at t;rw[aCw hC];exact cZ (aae (t (by omega) _ f.tail))
 rw[aCw (by simpa using hC)] at t D
 rw[aCx hC]
 have Y:=bA.eO hC
 have hb:=bA.bk hC
 have U:C.aD<=4/\1<=C.aD:=⟨hC.1.2,hC.1.1⟩
 have X:C.aG<=16:=hC.2.1.2
 have bad:((ps.length:Int)≠C.aD\/(ws.length:Int)≠C.aD\/(os.length:Int)≠C.aG\/vs.length≠C.lines*2)->∀q,Hs G q (aR u 0 C.enc::L)->Q (.tuple ⟨[.pointer none,I 1]⟩) q:=fun hb q f=>by
  rw[aCx hb] at t;exact t (by omega) _ f.tail
 refine cZ (aab (bW (lp (aC (ae u f rfl (cZ (eE (fun g=>bad (.inl g) _ f) (fun g1=>lw (aC (ae u f rfl (cZ (eE (fun g=>bad (.inr (.inl g)) _ f) (fun g2=>lo (aC (ae u f rfl (cZ (eE (fun g=>bad (.inr (.inr (.inl g))) _ f) (fun g3=>S (an u f (l:=C.enc) rfl rfl (Px hC O f fun h f=>cZ (eE (fun g=>bad (.inr (.inr (.inr (by omega)))) _ f) (fun g4=>?_))))))))))))))))))))))
 clear bad
 rw[aaa] at t D
 refine bW (lp (Si (_C:=C) R z F V P.1 (fun e h f=>?_) (fun e h f=>?_) ps.length 0 h (by omega) rfl f))
 .rw[aCx e] at t;exact t e _ f.tail
 rw[aCw (by simpa using e)] at t D
 have v:¬(within 0 3 ws=true/\within 0 4 os=true)->∀q,Hs G q (aR u 0 C.enc::L)->Q (.tuple ⟨[.pointer none,I 10]⟩) q:=fun hb q f=>by
  rw[aCx hb] at t;exact t (by omega) _ f.tail
 refine bW (A2 (l:=ws) P.2.1 (kN A f) fun h f=>gM (uK (zW (fun g1=>?_) (fun g1=>v (by simp[g1]) _ f.tail))))
 refine A2 (l:=os) P.2.2 (kN y f.tail) fun h f=>gM (uK (zW (fun g2=>?_) (fun g2=>v (by simp[g2]) _ f.tail)))
 clear v
 rw[aCw (by simp[g1,g2])] at t D
 have f:=f.tail
 refine bW (an u f (l:=C.enc) rfl rfl (Jb hC O f fun mb h f=>bV rfl (bV rfl (cZ (aab (bW (S ?_)))))))
 refine Sw (L:=aR u 0 C.enc::L) hC J O (by omega) (fun h f=>?_) vs.length 0 iC h (by omega) rfl f
 refine bW (iN f fun rv h f=>an u f (l:=C.enc) rfl rfl (aC (ae u f rfl (J2 (by omega) (by omega) (by omega) ?_))))
 dsimp only
 refine zK f rfl rfl ?_ rfl ?_ ?_
 .rw[fH,qQ (W:=8) (fun _=>rfl)]
 .rw[fH];exact sJ (fun _=>rfl) _
 intro a h f
 obtain⟨b,o,T,f⟩:=Hs.J5 (W:=8) rfl (by omega) f
 cases T
 refine nq (by rw[nU];omega) (by rw[Iy];exact Sq _) (kN y f) fun E c2 h f=>?_
 rw[nU,Iy] at f
 rw[nU]
 refine cQ (c:=C.enc++[.slice (some ⟨b,o,none⟩) C.aD.toNat C.aD.toNat,.slice E os.length c2,pt mb 0 0]) rfl (Qr f rfl rfl fun p h f=>?_)
 refine Kg (an u f (l:=C.enc) rfl rfl (Ku (by simp[bA.enc,q8]))) (Kg (aC ib) (Kg (ae u f rfl q8) (Kg ib (aN (aC (ae p f rfl (bU ?_)))))))
 have f:=f.cY (ue p C (.slice (some ⟨b,o,none⟩) C.aD.toNat C.aD.toNat) E os.length c2 mb) (hJ C.aD.toNat fun i=>aR b (o+i*8) zS)
 refine Qc (B:=C.aD.toNat) (b:=b) (o:=o) (C:=C) (ps:=ps) (ws:=ws) (by omega) (by omega) (by omega) (fun p hp=>A9 (uF e p hp)) R z F A ?_ C.aD.toNat 0 h (by omega) (by simpa using f)
 intro h f
 refine D rfl p _ ?_
 have f:=I8 (b:=b) (o:=o) (cap:=C.aD.toNat) (a:=E) (c:=c2) (mb:=mb) (m:=Qf C ps ws os vs) ((f.Sh (ue p C (.slice (some ⟨b,o,none⟩) C.aD.toNat C.aD.toNat) E os.length c2 mb) (fT 1 3 E c2 (os.length,os.map I)) (fY G C.lines mb C (words iC vs 0)) (hole G 8 127 (some ⟨b,o,none⟩) C.aD.toNat C.aD.toNat b o)).wh (hJ C.aD.toNat fun i=>mB b (o+i*8) (nX (ps.getD i []) (ws.getD i 0))))
 exact f.to
end
end Go.Proofs.YtmhapehobfnoiaaGreatDoor.A
namespace Go.Proofs.YtmhapehobfnoiaaGreatDoor
open Go Go.Ab Go.Hm Go.At Go.Mc Go.Ct Go.Nt Go.Is
section
def Hb (C:bA) (pv wv ov vv:Value):List Value:=C.enc++[pv,wv,ov,vv]
def Xy (ps:List (List Ins)) (ws:List Int) (i:Nat):aJ:=nX (ps.getD i []) (ws.getD i 0)
set_option maxRecDepth 100000
variable {G:Bg} {h:AH} {L L':List HP} {Q:Value->AH->Prop} {Cf:bA} {m N:Nat} {M:bY}
def xo (C:bA) (a1 a2 a3:Option Addr) (n a c2 c3:Nat):List Value:=C.enc++[.slice a1 n a,.slice a2 n c2,.slice a3 n c3,.pointer none,.pointer none,.pointer none,.slice none 0 0]
theorem Kw {e:TypeId} {a a2:Option Addr} {c c2 q:Nat} {l:List Nat} {k:Value×AH->Prop} {N:List HP} (hb:l.length<=100) (f:Hs G h L) [z:Has (ls pE 1 e a c) L l L'] [m2:cT (fT 1 e a2 c2 (1,[pt q 0 0])) L' N]
  (y:∀g t w,Hs G w (ls pE 1 e g t (l++[q])::N)->k (.slice g (l.length+1) t,w)):bB (iB 1 8 e h (.slice a l.length c) (.slice a2 1 c2)) k:=by
 have f:=z.of f
 have u:Hs G h (fT 1 e a2 c2 (1,[pt q 0 0])::ls pE 1 e a c l::N):=(f.perm (m2.perm.cons _)).rL
 have v:=(xO (enc:=pE) (x:=q) u).rL
 have:=tB (enc:=pE) (e:=e) (l:=l) (l2:=[q]) (a:=a) (c:=c) (a2:=a2) (c2:=c2) (bytes:=8) (k:=k) v (by simp;omega) fun g t h f=>by
  have:=y g t h f.rL.tail;rw[List.length_append,List.length_singleton];exact this
 exact this
theorem Ex {p2 p5:Nat} {pv wv ov vv:Value} {T:List Value} {ps:List (List Ins)} {ws:List Int} (hC:Cf.Ok) (hG:Gb G) (hg:Ob G 1 rT) (γ:ps.length=Cf.aD.toNat) (δ:ws.length=Cf.aD.toNat) (β:∀w∈ws,0<=w/\w<=3) (Y:∀p∈ps,(gF p).2=0)
  (hv:T.length=ps.length) (ho:oY G 1 pv (T.map fun x=>[x]).length (fun i=>(T.map fun x=>[x]).getD i [])) (hi:∀(i:Nat) (v:Value) (p:List Ins),T[i]?=some v->ps[i]?=some p->A.M7 G v p) (hw:A.wO G wv ws)
  (hk:∀lc lk lq a1 a2 a3 k c2 c3 h',lc.length=Cf.aD.toNat->lk.length=Cf.aD.toNat->lq.length=Cf.aD.toNat->Hs G h' (aR p5 0 (xo Cf a1 a2 a3 Cf.aD.toNat k c2 c3)::c7 a1 k lc::et a2 c2 lk::ij a3 c3 lq::jT tR lc (Xy ps ws)::jT (rE G Cf) lk (fun _=>eM.new)::jT (tS Cf) lq (fun _=>By)::aR p2 0 (Hb Cf pv wv ov vv)::L)->Dd 11 4 [] Q [(pt p2 0 0),(pt p5 0 0)] h'):
  ∀(f i:Nat) (lc lk lq:List Nat) (a1 a2 a3:Option Addr) (k c2 c3:Nat) (h:AH),i+f=Cf.aD.toNat->lc.length=i->lk.length=i->lq.length=i->Hs G h (aR p5 0 (xo Cf a1 a2 a3 i k c2 c3)::c7 a1 k lc::et a2 c2 lk::ij a3 c3 lq::jT tR lc (Xy ps ws)::jT (rE G Cf) lk (fun _=>eM.new)::jT (tS Cf) lq (fun _=>By)::aR p2 0 (Hb Cf pv wv ov vv)::L)->
  Dd 11 2 [] Q [(pt p2 0 0),(pt p5 0 0),(I Cf.aD),(I i)] h:=by
 have hc:=hC.1
 intro f
 induction f with
 |zero=>
  intro i lc lk lq a1 a2 a3 k c2 c3 h V U E J g
  obtain rfl:i=Cf.aD.toNat:=by omega
  exact bW (aT (aab (hk _ _ _ _ _ _ _ _ _ _ U E J g)))
 |succ f ih=>
  intro i lc lk lq a1 a2 a3 k c2 c3 h V U E J g
  obtain⟨p,X,_⟩:=jI (l:=ps) (i:=i) (by omega)
  obtain⟨v,K,_⟩:=jI (l:=T) (i:=i) (by omega)
  obtain⟨w,F,_⟩:=jI (l:=ws) (i:=i) (by omega)
  have α:=β w (List.mem_of_getElem? F)
  have Z:=Y p (List.mem_of_getElem? X)
  have eS:Xy ps ws i=nX p w:=by unfold Xy;rw[List.getD_eq_getElem?_getD,List.getD_eq_getElem?_getD,X,F];rfl
  refine bW (aT (aae (bW (iN g fun rr h g=>aC (ae p2 g rfl ?_)))))
  have g:=A.kN hw g
  refine pS g (x:=[I w]) (by simp[A.tV,F]) rfl ?_
  have g:=g.tail
  refine aC (ae p2 g rfl ?_)
  have g:=Bn (e:=3) (by simp) ho g
  refine pS g (x:=[v]) (by simp[K]) rfl ?_
  have g:=A.Lg (hi i v p K X) g.tail
  refine Xp (i:=i) (pr:=p) (w:=w) (by omega) α hg Z g fun O h g=>bV rfl (bV rfl (cZ (aab (bW ?_))))
  rw[<-eS] at g
  refine aC (sH (b:=p2) (o:=0) g (by decide) (l:=Cf.enc) rfl rfl ?_)
  refine C.Mf (C:=Cf) (core:=(i:Int)) hC (by omega) hG.lim g fun P h g=>bV rfl (bV rfl (cZ (aab (bW ?_))))
  refine aC (aC (ae p2 g rfl (aC (aC (ae p2 g rfl ?_)))))
  refine U2 (C:=Cf) hC g fun S h g=>bV rfl (bV rfl (cZ (aab (bW ?_))))
  subst U
  refine aN (aC (ae p5 g rfl (cQ (c:=[pt O 0 0]) rfl (jG (W:=1) (n:=1) (c:=1) g rfl rfl rfl fun b1 h g=>?_))))
  refine Kw (l:=lc) (a:=a1) (c:=k) (e:=95) (q:=O) (a2:=some b1) (c2:=1) (by omega) g fun t z h g=>aN (aC (ax (b:=p5) (o:=0) g fun h g=>?_))
  refine aN (aC (ae p5 g rfl (cQ (c:=[pt P 0 0]) rfl (jG (W:=1) (n:=1) (c:=1) g rfl rfl rfl fun b2 h g=>?_))))
  rw[<-E]
  refine Kw (l:=lk) (a:=a2) (c:=c2) (e:=98) (q:=P) (a2:=some b2) (c2:=1) (by omega) g fun u B h g=>aN (aC (ax (b:=p5) (o:=0) g fun h g=>?_))
  rw[E]
  refine aN (aC (ae p5 g rfl (cQ (c:=[pt S 0 0]) rfl (jG (W:=1) (n:=1) (c:=1) g rfl rfl rfl fun b3 h g=>?_))))
  rw[<-J]
  refine Kw (l:=lq) (a:=a3) (c:=c3) (e:=101) (q:=S) (a2:=some b3) (c2:=1) (by omega) g fun y D h g=>aN (aC (ax (b:=p5) (o:=0) g fun h g=>?_))
  have e5:gZ (gZ (gZ (xo Cf a1 a2 a3 lc.length k c2 c3) (0+7) [.slice t (lc.length+1) z]) (0+8) [.slice u (lk.length+1) B]) (0+9) [.slice y (lq.length+1) D]=xo Cf t u y (lc.length+1) z B D:=by rw[E,J];rfl
  rw[e5] at g
  have g:=De (R:=tR) (l:=lc) (q:=O) (s:=Xy ps ws) (g.cY (Kc lc.length O (Xy ps ws lc.length)) (jT tR lc (Xy ps ws)))
  rw[<-E] at g
  have g:=De (R:=rE G Cf) (l:=lk) (q:=P) (s:=fun _=>eM.new) (g.cY (C.C7 G P Cf lk.length eM.new) (jT (rE G Cf) lk (fun _=>eM.new)))
  have g:=De (R:=tS Cf) (l:=lq) (q:=S) (s:=fun _=>By) (g.cY (Ea S Cf By) (jT (tS Cf) lq (fun _=>By)))
  rw[E] at g
  rw[J]
  exact aad (ih (lc.length+1) (lc++[O]) (lk++[P]) (lq++[S]) t u y z B D h (by omega) (by simp) (by simp;omega) (by simp;omega) g.to)
end
section
def mkF (C:bA) (a1 a2 a3:Option Addr) (n a c2 c3:Nat) (x y z:Value):List Value:=C.enc++[.slice a1 n a,.slice a2 n c2,.slice a3 n c3,x,y,z,.slice none 0 0]
theorem Gh {a b:Int} {l:List Int} (h:within a b l=true):∀x∈l,a<=x/\x<=b:=by
 unfold within at h;intro x e;exact of_decide_eq_true (List.all_eq_true.1 h x e)
theorem K3 {C:bA} {ps:List (List Ins)} {ws os vs:List Int} (h:wM C ps ws os vs=0):C.Ok/\ps.length=C.aD.toNat/\ws.length=C.aD.toNat/\os.length=C.aG.toNat/\vs.length=C.lines*2/\oK ps=0/\(∀w∈ws,0<=w/\w<=3)/\∀o∈os,0<=o/\o<=4:=by
 unfold wM at h;split at h;cases h;rename_i hC;split at h;cases h;rename_i f;split at h;rename_i e;exact absurd h e;rename_i e;split at h;cases h;rename_i a;have a:=Decidable.not_not.1 a;exact⟨Decidable.not_not.1 hC,by omega,by omega,by omega,by omega,Decidable.not_not.1 e,Gh a.1,Gh a.2⟩
set_option maxRecDepth 100000
variable {G:Bg} {h:AH} {L L':List HP} {Q:Value->AH->Prop} {Cf:bA} {m N:Nat} {M:bY}
theorem Wy {p2 p5 hb mb:Nat} {hE:List Value} {pv wv ov vv:Value} {vs:List Int} {z:List Value} (hC:Cf.Ok) (hG:Gb G) (J:vs.length=Cf.lines*2) (B:A.wO G vv vs) (E:z[10]?=some (pt hb 0 0)) (g:hE[0]?=some (pt mb 0 0))
  (q:∀k,Hs G k (fY G Cf.lines mb Cf (At.words iC vs 0)::aR hb 0 hE::aR p5 0 z::aR p2 0 (Hb Cf pv wv ov vv)::L)->Dd 11 11 [] Q [(pt p2 0 0),(pt p5 0 0)] k):
  ∀(f i:Nat) (mem:Nat->Ln) (h:AH),i+f=vs.length->At.words iC vs 0=At.words mem (vs.drop i) i->Hs G h (fY G Cf.lines mb Cf mem::aR hb 0 hE::aR p5 0 z::aR p2 0 (Hb Cf pv wv ov vv)::L)->
  Dd 11 8 [] Q [(pt p2 0 0),(pt p5 0 0),vv,(I vs.length),(I i)] h:=by
 have y:=bA.eO hC
 intro f
 induction f with
 |zero=>
  intro i mem h u e a
  rw[List.drop_of_length_le (by omega),At.words] at e
  rw[e] at q
  exact bW (aT (aab (q _ a)))
 |succ f F=>
  intro i mem h u e a
  obtain⟨x,D,t⟩:=jI (l:=vs) (i:=i) (by omega)
  rw[t,At.words] at e
  have a:=A.kN B a
  refine bW (aT (aae (bW (pS a (x:=[I x]) (by simp[A.tV,D]) rfl (aN (aC (ae p5 a E (aN (aC (ae hb a g ?_))))))))))
  exact H7 (C:=Cf) (mb:=mb) (mem:=mem) (w:=i) (v:=x) hC hG.lim a.tail (by omega) fun h a=>cZ (aab (bW (aad (F (i+1) _ h (by omega) e a))))
theorem qj {pv wv ov vv:Value} {ps:List (List Ins)} {ws os vs:List Int} (hn:ps.length<=1000/\ws.length<1000/\os.length<1000) (hG:Gb G) (F:Ob G 1 rT) (J:A.dq G pv wv ov vv ps ws os vs) (a:Hs G h L)
  (k1:wM Cf ps ws os vs≠0->∀u,Hs G u L->Q (.tuple ⟨[.pointer none,I (wM Cf ps ws os vs)]⟩) u)
  (k2:wM Cf ps ws os vs=0->∀m u,Hs G u (eJ G Cf m (MC.new ⟨Cf,ps,ws,os,vs⟩)::L)->Q (.tuple ⟨[pt m 0 0,I 0]⟩) u):Cl Pr K 11 [.agg ⟨Hb Cf pv wv ov vv⟩] h Q:=by
 refine cW (fZ a fun f h a=>aC (sH (b:=f) (o:=0) a (by decide) (l:=Cf.enc) rfl rfl (aC (ae f a rfl (aC (ae f a rfl (aC (ae f a rfl (aC (ae f a rfl ?_))))))))))
 refine A.Q8 (C:=Cf) hn hG.lim F J a (fun v h a=>bV rfl (bV rfl (cZ (cR v (k1 v _ a.tail))))) fun v pa h a=>bV rfl (bV rfl (cZ (aab ?_)))
 obtain⟨hC,T,U,V,W,X,Y,Z⟩:=K3 v
 have a:Hs G h (aR f 0 (Hb Cf pv wv ov vv)::L):=a.to
 have hc:=hC.1
 obtain⟨⟨vi,hv,D,B⟩,E,y,w⟩:=J
 refine bW (aC (sH (b:=f) (o:=0) a (by decide) (l:=Cf.enc) rfl rfl (cQ (c:=xo Cf none none none 0 0 0 0) rfl (fZ a fun g h a=>aC (aC (ae f a rfl ?_))))))
 have a:=Di (R:=tS Cf) (s:=fun _=>By) a
 have a:=Di (R:=rE G Cf) (s:=fun _=>eM.new) a
 have a:=Di (R:=tR) (s:=Xy ps ws) a
 have a:=mR (enc:=pE) (e:=95) a
 have a:=mR (enc:=pE) (e:=98) a
 have a:=mR (enc:=pE) (e:=101) a
 refine Ex (L:=L) (ov:=ov) (vv:=vv) (Cf:=Cf) hC hG F T U Y (A.uF X) hv D B E ?_ Cf.aD.toNat 0 [] [] [] none none none 0 0 0 h (by omega) rfl rfl rfl a.to
 intro lc lk lq a1 k a3 t c2 c3 h O P S a
 refine bW (aC (sH (b:=f) (o:=0) a (by decide) (l:=Cf.enc) rfl rfl ?_))
 refine H.Qb (C:=Cf) hC hG.lim a fun hb h a=>bV rfl (bV rfl (aN (aC (ax (b:=g) (o:=0) a fun h a=>cZ (aab ?_)))))
 have e8:gZ (xo Cf a1 k a3 Cf.aD.toNat t c2 c3) (0+10) [pt hb 0 0]=mkF Cf a1 k a3 Cf.aD.toNat t c2 c3 (pt hb 0 0) (.pointer none) (.pointer none):=rfl
 rw[e8] at a
 obtain⟨mb,b,o,cap,a⟩:=H.yX (a.front (H.sF G hb Cf (kU Cf.lines)))
 have em:(fun i=>(kU Cf.lines i).2)=iC:=by
  funext i;unfold kU iC;split<;>rfl
 rw[em] at a
 have a:=a.Sh (fY G Cf.lines mb Cf iC) (aR hb 0 (H.Bh mb Cf b o cap)) (aR g 0 (mkF Cf a1 k a3 Cf.aD.toNat t c2 c3 (pt hb 0 0) (.pointer none) (.pointer none))) (aR f 0 (Hb Cf pv wv ov vv))
 refine bW (aC (ae f a rfl (B0 w ?_)))
 refine Wy (Cf:=Cf) (p2:=f) (p5:=g) (hb:=hb) (mb:=mb) (hE:=H.Bh mb Cf b o cap) (z:=mkF Cf a1 k a3 Cf.aD.toNat t c2 c3 (pt hb 0 0) (.pointer none) (.pointer none)) hC hG W w rfl rfl ?_ vs.length 0 iC h (by omega) rfl a
 intro h a
 have a:=H.vN (H:=MC.home ⟨Cf,ps,ws,os,vs⟩) (hb:=hb) (C:=Cf) (mb:=mb) (b:=b) (o:=o) (cap:=cap) (a.Sh (aR hb 0 (H.Bh mb Cf b o cap)) (fY G Cf.lines mb Cf (At.words iC vs 0)) (hole G 25 222 (some ⟨b,o,none⟩) cap Cf.lines b o) (hJ Cf.lines fun i=>H.oA b (o+i*25) (kU Cf.lines i).1))
 refine bW (aC (aC (ae f a rfl (aC (ae f a rfl ?_)))))
 refine Xc (C:=Cf) hC y V Z a fun q h a=>bV rfl (bV rfl (aN (aC (ax (b:=g) (o:=0) a fun h a=>cZ (aab (bW ?_))))))
 refine aC (sH (b:=f) (o:=0) a (by decide) (l:=Cf.enc) rfl rfl ?_)
 refine Vi (C:=Cf) hC hG.lim a fun fb h a=>bV rfl (bV rfl (aN (aC (ax (b:=g) (o:=0) a fun h a=>cZ (aab (k2 v _ _ ?_))))))
 have a:=mR (enc:=Ev.enc) (e:=74) a
 have e9:gZ (gZ (mkF Cf a1 k a3 Cf.aD.toNat t c2 c3 (pt hb 0 0) (.pointer none) (.pointer none)) (0+11) [pt q 0 0]) (0+12) [pt fb 0 0]=Ad Cf ⟨lc,lk,lq,a1,k,a3,none,t,c2,c3,0,hb,q,fb⟩ 0:=by
  unfold Ad;dsimp only;rw[O,P,S];rfl
 rw[e9] at a
 have a:Hs G h (eJ G Cf g (⟨Xy ps ws,fun _=>eM.new,fun _=>By,MC.home ⟨Cf,ps,ws,os,vs⟩,⟨oB os,fun _=>none⟩,fun _ _=>[],[]⟩:bY)::L):=(iE (m:=g) (x:=⟨lc,lk,lq,a1,k,a3,none,t,c2,c3,0,hb,q,fb⟩) (⟨Xy ps ws,fun _=>eM.new,fun _=>By,MC.home ⟨Cf,ps,ws,os,vs⟩,⟨oB os,fun _=>none⟩,fun _ _=>[],[]⟩:bY) ⟨O,P,S⟩ a).to
 exact a
end
end Go.Proofs.YtmhapehobfnoiaaGreatDoor
end
namespace Go.Proofs.YtmhapehobfnoiaaGreatDoor
open Go Go.Ab Go.Hm Go.At Go.Mc Go.Ct Go.Nt Go.Is
section
theorem xl {g:FuncId} {a b:Array Value} {k:Value->Prop} (e:k (.bool false)):bB (Tb .eql (.func (.func g) a b) .nilFunc) k:=⟨_,rfl,e⟩
set_option maxRecDepth 100000
attribute [local irreducible] bB Br ld1 A5 I7 Cd kT yC kI Xx qS zP Bo pT nL mH yV A1 Xb T1 P6 P5 Tb Uj Mx Tc W6 kQ tQ tE iB copyV kV V5 Vo W0 Ed iZ Rp Vn Uz lZ rG Ay yZ Cl C9 Ui qR qH iO eI bS bG
variable {G:Bg} {h:AH} {L L':List HP} {Q:Value->AH->Prop} {Cf:bA} {m N:Nat} {M:bY}
theorem xL (a:Q (.bool true) h):Cl Pr K 10 [] h Q:=by
 unfold Cl;exact Z5 (v:= .bool true) rfl a
theorem tn {C:bA} {pv wv ov vv:Value} {ps:List (List Ins)} {ws os vs:List Int} (X:ps.length<=9223372036854775807) (J:A.dq G pv wv ov vv ps ws os vs) (a:Hs G h L)
  (S:ps.length<=6/\ws.length<=6/\os.length<=20/\vs.length<=80->∀t,Hs G t L->Q (.bool true) t) (y:∀t,Hs G t L->Q (.bool false) t):Cl Pr K 9 [.agg ⟨Hb C pv wv ov vv⟩] h Q:=by
 obtain⟨⟨V,P,u,B⟩,E,z,D⟩:=J
 have lp:∀{k:Value->Prop},k (I ps.length)->bB (mH pv) k:=fun q=>A.sB u (by simpa [P] using q)
 have lw:∀{k:Value->Prop},k (I ws.length)->bB (mH wv) k:=fun q=>B0 E q
 have T:∀{k:Value->Prop},k (I os.length)->bB (mH ov) k:=fun q=>B0 z q
 have U:∀{k:Value->Prop},k (I vs.length)->bB (mH vv) k:=fun q=>B0 D q
 refine cW (fZ a fun g h a=>?_)
 have loop:∀(f i:Nat) (h:AH),i+f=ps.length->Hs G h (aR g 0 (Hb C pv wv ov vv)::L)->Dd 9 1 [] Q [(pt g 0 0),(I i)] h:=by
  intro f;induction f with
  |zero=>
   intro i h F a;refine bW (aC (ae g a (v:=pv) rfl (lp (aT (aab (aC (ae g a (v:=pv) rfl (lp (As (eE (fun g1=>?_) (fun g1=>y _ a.tail)))))))))));refine aC (ae g a (v:=wv) rfl (lw (As (eE (fun g2=>?_) (fun g2=>y _ a.tail)))));refine aC (ae g a (v:=ov) rfl (T (As (eE (fun g3=>?_) (fun g3=>y _ a.tail)))));refine aC (ae g a (v:=vv) rfl (U (As ?_)));by_cases g4:(vs.length:Int)<=80;rw[decide_eq_true g4];exact S ⟨by omega,by omega,by omega,by omega⟩ _ a.tail;rw[decide_eq_false g4];exact y _ a.tail
  |succ f R=>
   intro i h F a;obtain⟨p,O,W⟩:=jI (l:=ps) (i:=i) (by omega);obtain⟨v,w,_⟩:=jI (l:=V) (i:=i) (by omega);refine bW (aC (ae g a (v:=pv) rfl (lp (aT (aae (bW (aC (ae g a (v:=pv) rfl ?_))))))));refine pS (Bn (e:=3) (by simp) u a) (x:=[v]) (by simp[w]) rfl (A.sB (B i v p w O) (mY (eE (fun _=>y _ a.tail) (fun _=>bW (aad (R (i+1) h (by omega) a))))))
 exact loop ps.length 0 h (by omega) a
def bY.core (Cf:bA) (M:bY) (x:Int):List Value×Int:=if 0<=x/\x<Cf.aD then((M.aB x.toNat).core,0) else([I 0,I 0,I 0,I 0,I 0,I 0,.bool false],10)
theorem Oq {x:Int} (hC:Cf.Ok) (e:Hs G h L) [D:Has (eJ G Cf m) L M L'] (g:∀k,Hs G k (eJ G Cf m M::L')->Q (.tuple ⟨[.agg ⟨(bY.core Cf M x).1⟩,I (bY.core Cf M x).2]⟩) k):Cl Pr K 13 [pt m 0 0,I x] h Q:=by
 have E:=hC.1;unfold bY.core at g;refine cW (fA (cs:=[I 0,I 0,I 0,I 0,I 0,I 0,.bool false]) (D.of e) fun q h e=>fM (dO (bW ?_)));obtain⟨y,u,e⟩:=qY (e.front (eJ G Cf m M));have A:=u.1;have bad:∀{h:AH},Hs G h (eJ G Cf m M::aR q 0 [I 0,I 0,I 0,I 0,I 0,I 0,.bool false]::L')->(∀k,Hs G k (eJ G Cf m M::L')->Q (.tuple ⟨[.agg ⟨[I 0,I 0,I 0,I 0,I 0,I 0,.bool false]⟩,I 10]⟩) k)->
   bB (oL [(I 0),(I 0),(I 0),(I 0),(I 0),(I 0),(.bool false)] []) fun c=>bB (I7 h 7 (pt q 0 0) (.agg ⟨c⟩)) fun h=>bB (A5 h 7 (pt q 0 0)) fun v=>Q (.tuple ⟨[v,I 10]⟩) h:=by
  intro h e B
  exact cQ (c:=[I 0,I 0,I 0,I 0,I 0,I 0,.bool false]) rfl (ap (b:=q) e fun h e=>an q e (l:=[I 0,I 0,I 0,I 0,I 0,I 0,.bool false]) rfl rfl (B _ e.to))
 refine aT (eE (fun w=>?_) (fun w=>?_));rw[aaa] at g;exact bad (iE (m:=m) (x:=y) M u e).to g;refine aN (aC (ae m e rfl (bU (jM (eE (fun z=>?_) (fun z=>?_))))));rw[aaa] at g;exact bad (iE (m:=m) (x:=y) M u e).to g;rw[aac] at g;obtain⟨i,rfl⟩:=Int.eq_ofNat_of_zero_le (show 0<=x by omega);have f:i<y.lc.length:=by omega
 refine aN (aC (ae m e rfl (Zg e f ?_)));have e:=pO (R:=tR) (l:=y.lc) (s:=M.aB) f e;obtain⟨a,c,e⟩:=F5 e;refine aN (aC (sH (b:=y.lc.getD i 0) (o:=0) e (by decide) (l:=(M.aB i).core) rfl rfl (ap (b:=q) e fun h e=>an q e (l:=(M.aB i).core) rfl rfl (g _ ?_))));have e:=Bx (y.lc.getD i 0) i (M.aB i) (a:=a) (c:=c) (e.cY (aR (y.lc.getD i 0) 0 (Qx i (M.aB i) a c)) (pz a c (M.aB i).prog)) rfl rfl;have e:=na (l:=y.lc) (s:=M.aB) (i:=i) (t:=M.aB i) f e;rw[bH] at e;exact(iE (m:=m) (x:=y) M u e).to
theorem lu (a:Hs G h L) [k:Has (eJ G Cf m) L M L'] (f:∀e,Hs G e (eJ G Cf m M::L')->Q (I M.log.length) e):Cl Pr K 18 [pt m 0 0] h Q:=by
 obtain⟨y,g,a⟩:=qY (k.of a);exact cW (fM (dO (aN (aC (ae m a rfl (bU (f _ (iE (m:=m) (x:=y) M g a).to)))))))
def x9 (q:Nat) (a:Option Addr) (c:Nat) (l:List Ev):HP:=sp [aR q 0 [.slice a l.length c],Hp a c l]
theorem aB6 {q c:Nat} {a:Option Addr} {l:List Ev} (hb:l.length<=100000):nw Pr K G 162 [] [pt q 0 0] (x9 q a c l) (l.map fun n=>[.agg ⟨n.enc⟩]):=by
 intro u J y L h Q g P A B;have g:=g.Z0;have k:∀{h:AH} {M:List HP},Hs G h (aR q 0 [.slice a l.length c]::Hp a c l::M)->Hs G h (x9 q a c l::M):=fun g=>g.Ve;refine cW (ae q g rfl (bU ?_));have loop:∀(f i:Nat) (h:AH),i+f=l.length->Hs G h (aR q 0 [.slice a l.length c]::Hp a c l::u ((l.drop i).map fun n=>[.agg ⟨n.enc⟩])::L)->Dd 162 1 [] Q [y,(.slice a l.length c),(I l.length),(I i)] h:=by
  intro f;induction f with
  |zero=>
   intro i h E g;rw[List.drop_of_length_le (by omega)] at g;exact bW (aT (aab (A _ _ (k g))))
  |succ f R=>
   intro i h E g;obtain⟨x,O,D⟩:=jI (l:=l) (i:=i) (by omega);rw[D,List.map_cons] at g;refine bW (aT (aae (bW (Ac (l:=l) (a:=a) (c:=c) (enc:=Ev.enc) (e:=74) g (by decide) (by omega) (by rw[Int.toNat_natCast];exact O) (fA g fun w h g=>ap (b:=w) g fun h g=>an w g (l:=x.enc) rfl rfl ?_)))));refine(P _ _ h _ (g.front (u ([.agg ⟨x.enc⟩]::((l.drop (i+1)).map fun n=>[.agg ⟨n.enc⟩]))))).mono fun v z F=>?_;rcases F with⟨rfl,t⟩|⟨rfl,t⟩;exact gM (dO (bW (aad (R (i+1) z (by omega) t.to))));exact gM (iM (B _ _ (k t.to)))
 exact loop l.length 0 h (by omega) (by rw[List.drop_zero];exact g)
abbrev evX (p:Nat) (e:Nat->Value) (d l:Nat) (done:List Ev):HP:=Bb fun x:Option Addr×Nat=>sp [mD Pr 19 (mJ 250) 20 e d l (.ready,none),aR p 0 [.slice x.1 done.length x.2],Hp x.1 x.2 done]
theorem Sr (u:M.log.length<2000) (f:Hs G h L) [J:Has (eJ G Cf m) L M L'] (F:∀a c t,Hs G t (Hp a c M.log::eJ G Cf m M::L')->Q (.slice a M.log.length c) t):Cl Pr K 19 [pt m 0 0] h Q:=by
 obtain⟨y,I,f⟩:=qY (J.of f);refine cW ?_;refine cW (fM (dO (aN (aC (ae m f rfl ?_)))));refine cW (fZ f fun q h f=>?_);refine xl (dO (bW (fA f fun p h f=>nB f fun d h f=>?_)));intro e E;refine nI f fun l h f=>uA rfl ?_;have f:=mR (enc:=Ev.enc) (e:=74) f;have f:Hs G h (x9 q y.al y.cl M.log::evX p e d l []::mk d ()::aR m 0 (Ad Cf y M.log.length)::c7 y.ac y.cc y.lc::et y.ak y.ck y.lk::ij y.aq y.cq y.lq::
  jT tR y.lc M.aB::jT (rE G Cf) y.lk M.dB::jT (tS Cf) y.lq M.dN::H.sF G y.hb Cf M.home::uO Cf y.mb M.bC::nJ Cf y.fb M.jS::L'):=by
  have f:=(f.cY (aR q 0 [.slice y.al M.log.length y.cl]) (Hp y.al y.cl M.log)).Ve
  have f:Hs G h (x9 q y.al y.cl M.log::_):=f
  have f:=(f.eW (mD Pr 19 (mJ 250) 20 e d l (.ready,none)) (aR p 0 [.slice none 0 0]) (Hp none 0 [])).Mk
  have f:=Hs.vK (A:=fun x:Option Addr×Nat=>sp [mD Pr 19 (mJ 250) 20 e d l (.ready,none),aR p 0 [.slice x.1 ([]:List Ev).length x.2],Hp x.1 x.2 []]) (none,0) f
  exact f.to
 refine(aB6 (q:=q) (a:=y.al) (c:=y.cl) (l:=M.log) (by omega)).fold (X:=fun done=>evX p e d l done) (Z:=fun _ _=>Ck False) f ?_ ?_ ?_
 .intro done x h T w f;have D:done.length<1999:=by have:=w.length_le;simp at this;omega
  obtain⟨⟨a,c⟩,f⟩:=f.yS;have f:=f.Gq;refine rW (F4 f) E (fA f fun p1 h f=>ap (b:=p1) f fun h f=>nO f fun h f=>ae p f rfl (an p1 f (l:=x.enc) rfl rfl (cQ (c:=x.enc) rfl (jG (W:=7) (n:=1) (c:=1) f rfl rfl rfl fun O h f=>?_))));have f:=xO (enc:=Ev.enc) (x:=x) f;refine la (l:=done) (v:=x) (a:=a) (c:=c) (by omega) f fun g k h f=>ap (b:=p) f fun h f=>ae p f rfl (bU (jM (aU (by simp;omega) (tC f fun h f=> .inl ⟨rfl,?_⟩))));have f:=(f.eW (mD Pr 19 (mJ 250) 20 e d l (.ready,none)) (aR p 0 [.slice g (done++[x]).length k]) (Hp g k (done++[x]))).Mk;exact(Hs.vK (A:=fun z:Option Addr×Nat=>sp [mD Pr 19 (mJ 250) 20 e d l (.ready,none),aR p 0 [.slice z.1 (done++[x]).length z.2],Hp z.1 z.2 (done++[x])]) (g,k) f).to
 intro v h f;obtain⟨⟨a,c⟩,f⟩:=(f.front (evX p e d l M.log)).yS;have f:=f.Gq;have f:=(f.front (x9 q y.al y.cl M.log)).Z0;refine oJ f fun h f=>oM (ae p f rfl (tY f fun h f=>uU (F a c _ ?_)));exact(iE (m:=m) (x:=y) M I f).to
 .intro done x v h w f;obtain⟨B,_⟩:=(f.front (Ck False)).bc;exact B.elim
end
end Go.Proofs.YtmhapehobfnoiaaGreatDoor
namespace Go.Mc
open Go Go.Ab Go.Hm Go.At Go.Is Go.Ct Go.Nt
section
variable {C:bA} {N:Nat} {M:bY}
def rp (i:Nat) (s:aJ) (x:Ev):Option aJ:=match aJ.oG s i with
 |some r=>if r.2=x then some r.1 else none
 |none=>if(aJ.aY s i x.value x.code).2.2=0/\(aJ.aY s i x.value x.code).2.1=x then some (aJ.aY s i x.value x.code).1 else none
theorem Fu {s:aJ} {i:Nat} {r:aJ×Ev} (h:aJ.oG s i=some r):r.2.core=i:=by
 unfold aJ.oG at h;cases hn:aJ.next? s with
 |none=>rw[hn] at h;cases h
 |some x=>
  rw[hn] at h;dsimp only at h;repeat' split at h
  all_goals first|cases h|skip
  all_goals rfl
theorem X4 {s:aJ} {i:Nat} {r:aJ×Ev} (h:aJ.oG s i=some r):rp i s r.2=some r.1:=by
 unfold rp;grind
theorem Ka {s:aJ} {i:Nat} {v c:Int} (h:(aJ.aY s i v c).2.2=0):aJ.oG s i=none:=by
 unfold aJ.aY at h;unfold aJ.oG;cases hn:aJ.next? s with
 |none=>rfl
 |some x=>
  rw[hn] at h;dsimp only at h ⊢;unfold Vp at h;grind
theorem pL {s:aJ} {i:Nat} {v c:Int} (h:(aJ.aY s i v c).2.2=0):(aJ.aY s i v c).2.1.core=i:=by
 unfold aJ.aY at h ⊢;cases hn:aJ.next? s with
 |none=>rw[hn] at h;cases h
 |some x=>
  rw[hn] at h;dsimp only at h ⊢;repeat' split at h
  all_goals first|cases h|skip
  all_goals simp_all [aJ.ev]
theorem Ic {s:aJ} {i:Nat} {v c:Int} (h:(aJ.aY s i v c).2.2=0):rp i s (aJ.aY s i v c).2.1=some (aJ.aY s i v c).1:=by
 unfold rp;rw[Ka h];dsimp only;have e:aJ.aY s i (aJ.aY s i v c).2.1.value (aJ.aY s i v c).2.1.code=aJ.aY s i v c:=by
  unfold aJ.aY at h ⊢;cases hn:aJ.next? s with
  |none=>rfl
  |some x=>
   rw[hn] at h;dsimp only at h ⊢;unfold aJ.ev;grind
 grind
def rc (m:Mon) (g:Nat):Option Int:=(m.runs g).map iK.core
structure N1 (M:bY):Prop where
 op:∀g c,rc M.bC g=some c->∃x,aJ.next? (M.aB c.toNat)=some x/\x.op=8
 one:∀g g' c,rc M.bC g=some c->rc M.bC g'=some c->g=g'
theorem H2 (hC:C.Ok) {m:Mon} (a:gR C m) {c:Int}:m.calls c=true↔∃g,rc m g=some c:=by
 unfold Mon.calls Mon.running rc;rw[List.any_eq_true];constructor;rintro ⟨g,e,h⟩;unfold Mon.qX at h;grind;rintro ⟨g,h⟩;cases hr:m.runs g with
 |none=>rw[hr] at h;cases h
 |some r=>
  rw[hr] at h;have:=a.aBv hC g r hr;refine⟨g,List.mem_filter.2 ⟨List.mem_range.2 this,by rw[hr];rfl⟩,?_⟩;unfold Mon.qX;grind
inductive Out (C:bA) (d:Do) (M M':bY):Prop where
 |same (h1:M'.aB=M.aB) (h2:M'.log=M.log) (h3:∀g,rc M'.bC g=rc M.bC g)
 |ev (i:Nat) (s:aJ) (v:Ev) (hi:(i:Int)<C.aD) (hd:d.pX=0/\d.a=i) (hw:M.bC.calls i=false) (h1:M'.aB=aI M.aB i s) (h2:M'.log=M.log++[v]) (hc:v.core=i) (hr:rp i (M.aB i) v=some s) (h3:∀g,rc M'.bC g=rc M.bC g)
 |ask (i g:Nat) (hi:(i:Int)<C.aD) (hd:d.pX=0/\d.a=i) (hw:M.bC.calls i=false) (h1:M'.aB=M.aB) (h2:M'.log=M.log) (hx:∃x,aJ.next? (M.aB i)=some x/\x.op=8) (h3:∀g',rc M'.bC g'=if g'=g then some (i:Int) else rc M.bC g') (h0:rc M.bC g=none)
 |fin (i g:Nat) (s:aJ) (v:Ev) (hi:(i:Int)<C.aD) (hd:d.pX=3) (hg:rc M.bC g=some (i:Int)) (h1:M'.aB=aI M.aB i s) (h2:M'.log=M.log++[v]) (hc:v.core=i) (ho:v.op=8/\v.code=0) (ha:s.at'=(M.aB i).at'+1) (hr:rp i (M.aB i) v=some s) (h3:∀g',rc M'.bC g'=if g'=g then none else rc M.bC g')
theorem sL {d:Do} {i:Nat} {v c:Int} (e:(i:Int)<C.aD) (a:d.pX=0/\d.a=i) (f:M.bC.calls i=false):Out C d M (M.aY i v c).1:=by
 unfold bY.aY;dsimp only;split;exact .same rfl rfl fun _=>rfl;rename_i h;have h:(aJ.aY (M.aB i) i v c).2.2=0:=Decidable.not_not.1 h;exact .ev i _ _ e a f rfl rfl (pL h) (Ic h) fun _=>rfl
theorem xk {s:aJ} {i:Nat} {a:Mc.Ask} (h:aJ.C2 s i=some a):a.core=i/\∃x,aJ.next? s=some x/\x.op=8:=by
 unfold aJ.C2 at h;grind
theorem Zz {d:Do} {i:Nat} {a:Mc.Ask} (A:cS C N M) (t:(i:Int)<C.aD) (q:d.pX=0/\d.a=i) (u:M.bC.calls i=false) (B:aJ.C2 (M.aB i) i=some a):Out C d M (M.call C i a).1:=by
 obtain⟨y,z⟩:=xk B;unfold bY.call;dsimp only;split;exact sL t q u
 .rename_i e;split;exact .same rfl rfl fun _=>rfl
  .have e:(M.bC.call C.aD a).2.2=0:=Decidable.not_not.1 e;have g:rc M.bC a.bL.toNat=none:=by
    unfold Mon.call at e;split at e;cases e;split at e;cases e;rename_i k;split at e;cases e;rename_i f;have w:0<=a.bL:=(Decidable.not_not.1 k).1;have f:M.bC.phase a.bL=0:=Decidable.not_not.1 f;unfold Mon.phase Mon.run at f;rw[aCx w] at f;unfold rc;cases hr:M.bC.runs a.bL.toNat with
    |none=>rfl
    |some r=>rw[hr] at f;have:=(A.bC.run _ r hr).2.2.1;grind
   refine .ask i a.bL.toNat t q u rfl rfl z (fun v=>?_) g;show rc (M.bC.call C.aD a).1 v=_;unfold Mon.call at e ⊢;repeat' split at e
   all_goals first|(exfalso;revert e;simp;done)|skip
   rename_i D k f n4;rw[aCw D,aCw k,aCw f,aCw n4];dsimp only at e ⊢;split at e;grind;rename_i n5;rw[aCw n5];unfold rc Mon.dE aI;dsimp only;split;show some a.core=_;rw[y];rfl
theorem Sd {d:Do} {i:Nat} {a:Acc} (t:(i:Int)<C.aD) (q:d.pX=0/\d.a=i) (u:M.bC.calls i=false):Out C d M (M.access C i a).1:=by
 have same:∀{r:bY},r.aB=M.aB->r.log=M.log->r.bC=M.bC->Out C d M r:=fun a b c=> .same a b fun g=>by rw[c]
 unfold bY.access;split;exact sL t q u;dsimp only;split;grind;split;unfold bY.walk;grind;split;exact sL t q u;split;unfold bY.want;grind;unfold bY.sX;dsimp only;rcases sL (C:=C) (M:=M.Hj i (if a.write=true then nV C (if a.read=true then pH C (M.dB i) (a.word/2) (a.word % 2) (M.known i (a.word/2/2)) else M.dB i) (a.word/2) (a.word % 2) (M.known i (a.word/2/2)) a.value else if a.read=true then pH C (M.dB i) (a.word/2) (a.word % 2) (M.known i (a.word/2/2)) else M.dB i)) (d:=d) (v:=if a.read=true then Dn C (M.dB i) (a.word/2) (a.word % 2) else 0) (c:=0) t q u with⟨a,b,c⟩|⟨i,s,v,a,b,c,e,f,g,k,l⟩|⟨i,g,a,b,c,e,f,k,l,z⟩|⟨i,g,s,v,a,b,c,e,f,k,l,n,o,p⟩;exact .same a b c;exact .ev i s v a b c e f g k l;exact .ask i g a b c e f k l z;grind
theorem E1 {m:Mon} {g c:Int}:∀k,rc (m.dropped C.aD g c).1 k=rc m k:=by
 intro k;unfold Mon.dropped;split;rfl;split;rfl;rename_i r a;split;rfl;split;rfl;unfold Mon.run at a;split at a;unfold rc Mon.dE aI;dsimp only;split;rename_i e;subst e;rw[a];rfl;rfl;cases a
theorem B4 {n:aH}:(M.hU C n).1.aB=M.aB/\(M.hU C n).1.log=M.log/\∀g,rc (M.hU C n).1.bC g=rc M.bC g:=by
 unfold bY.hU;repeat' split
 all_goals first
  |exact⟨rfl,rfl,fun _=>rfl⟩
  |skip
 dsimp only;split;exact⟨rfl,rfl,fun g=>E1 g⟩;exact⟨rfl,rfl,fun g=>E1 g⟩
theorem kl {m:Mon} {g:Int} {u:Mc.iK} (h:(m.over g).2.1=some u):rc m g.toNat=some u.core/\∀k,rc (m.over g).1 k=if k=g.toNat then none else rc m k:=by
 unfold Mon.over at h ⊢;split at h;cases h;rename_i a;rw[aCw a];cases hr:m.run g with
 |none=>rw[hr] at h;cases h
 |some r=>
  rw[hr] at h;dsimp only at h ⊢;split at h;cases h;rename_i e;rw[aCw e];cases h;unfold Mon.run at hr;split at hr;refine⟨by unfold rc;rw[hr];rfl,fun k=>?_⟩;unfold rc Mon.dE aI;dsimp only;split;rfl;rfl;cases hr
theorem mj (_:C.Ok) (z:cS C N M) (F:N1 M) {d:Do}:Out C d M (M.P7 C d).1:=by
 have same:∀{r:bY},r.aB=M.aB->r.log=M.log->(∀g,rc r.bC g=rc M.bC g)->Out C d M r:=fun a b c=> .same a b c;unfold bY.P7;split;rename_i v;unfold bY.step;split;grind;rename_i t;have t:0<=d.a/\d.a<C.aD:=Decidable.not_not.1 t;have k:((d.a.toNat:Nat):Int)<C.aD:=by omega
 have e:d.pX=0/\d.a=(d.a.toNat:Nat):=⟨v,by omega⟩;dsimp only;split;grind;split;grind;rename_i f;have f:M.bC.calls ((d.a.toNat:Nat):Int)=false:=by
  rw[<-e.2];unfold bY.waits at f;simpa using f
 split;rename_i r A;exact .ev _ _ _ k e f rfl rfl (Fu A) (X4 A) fun _=>rfl;split;rename_i a t;exact Zz z k e f t;split;exact Sd k e f;grind
 .split
  .unfold bY.vI;dsimp only;repeat' split
   all_goals first
    |exact same rfl rfl fun _=>rfl
    |exact same B4.1 B4.2.1 B4.2.2
  split;unfold bY.begin;grind;split;rename_i v;unfold bY.finish;split;grind;split;grind;dsimp only;split;grind;rename_i u B;obtain⟨y,R⟩:=kl B;have I:=(Ov (g:=d.a) z.bC).2 u B;obtain⟨i,k⟩:=Int.eq_ofNat_of_zero_le I.1;obtain⟨x,J,E⟩:=F.op _ _ y;have D:u.core.toNat=i:=by omega
  rw[D] at J ⊢;have K:∀P:bY,P.aB=M.aB->P.log=M.log->(∀g,rc P.bC g=if g=d.a.toNat then none else rc M.bC g)->Out C d M (P.aY i 0 0).1:=by
   intro P p1 S O;have q:aJ.aY (P.aB i) i 0 0=(((M.aB i).dE x.b 0).eY ((M.aB i).at'+1),aJ.ev (M.aB i) i x ((M.aB i).dA x.b.toNat) ((M.aB i).dA x.c.toNat) 0,0):=by
    rw[p1];unfold aJ.aY;grind
   have w:(aJ.aY (M.aB i) i 0 0).2.2=0:=by rw[<-p1,q]
   unfold bY.aY;dsimp only;rw[aCw (by rw[q];simp)];refine .fin i d.a.toNat (aJ.aY (P.aB i) i 0 0).1 (aJ.aY (P.aB i) i 0 0).2.1 (by omega) v (by rw[y,k]) (by grind) (by grind) ?_ ?_ ?_ ?_ O;rw[p1];exact pL w;rw[q];exact⟨E,rfl⟩;rw[q];rfl;rw[p1];exact Ic w
  grind;grind
end
section
variable {C:bA} {N:Nat} {M M':bY} {d:Do}
theorem T3 {m:Mon} (a:gR C m) {g:Nat} {c:Int} (h:rc m g=some c):0<=c/\c<C.aD:=by
 unfold rc at h;cases hr:m.runs g with
 |none=>rw[hr] at h;cases h
 |some r=>
  rw[hr] at h;cases h;exact(a.run g r hr).2.2.2.1
theorem N1.out (hC:C.Ok) (z:cS C N M) (t:N1 M) (J:Out C d M M'):N1 M':=by
 have A:∀{i:Nat},M.bC.calls i=false->∀g c,rc M.bC g=some c->c.toNat≠i:=by
  intro i S g c f e;have w:=T3 z.bC f;have:c=i:=by omega
  subst this;have:=(H2 hC z.bC).2 ⟨g,f⟩;grind
 cases J with
 |same w y k=>exact⟨fun g c f=>by rw[w];exact t.op g c (by rw[<-k];exact f),fun g u c a b=>t.one g u c (by rw[<-k];exact a) (by rw[<-k];exact b)⟩
 |ev i s v E D F w y I K k=>
  refine⟨fun g c f=>?_,fun g u c a b=>t.one g u c (by rw[<-k];exact a) (by rw[<-k];exact b)⟩;rw[k] at f;rw[w];unfold aI;rw[aCw (A F g c f)];exact t.op g c f
 |ask i g E D F w y O k=>
  constructor;intro u c f;rw[k] at f;rw[w];split at f;cases f;exact O;exact t.op u c f;intro g1 g2 c a b;rw[k] at a b;split at a;grind;split at b;grind;exact t.one g1 g2 c a b
 |fin i g s v E D f w y I T R K k=>
  constructor;intro u c q;rw[k] at q;split at q;cases q;rename_i B;rw[w];unfold aI;have P:=T3 z.bC q;rw[aCw (fun e=>B (t.one u g c q (by grind)))];exact t.op u c q;intro g1 g2 c a b;rw[k] at a b;split at a;cases a;split at b;cases b;exact t.one g1 g2 c a b
def jo (i:Nat) (s:aJ):List Ev->Option aJ
 |[]=>some s
 |x::l=>if x.core=i then(match rp i s x with|some t=>jo i t l|none=>none) else jo i s l
theorem Lm {i:Nat}:∀{l:List Ev} {s t:aJ} {x:Ev},jo i s l=some t->jo i s (l++[x])=if x.core=i then rp i t x else some t
 |[],s,t,x,h=>by
  cases h;show jo i s [x]=_;unfold jo;split;cases rp i s x<;>rfl;rfl
 |y::l,s,t,x,h=>by
  rw[List.cons_append];unfold jo at h ⊢;split;rename_i e;rw[aCx e] at h;cases hr:rp i s y with
  |none=>rw[hr] at h;cases h
  |some u=>rw[hr] at h;exact Lm h
  rename_i e;rw[aCw e] at h;exact Lm h
def RPs (C:bA) (S:Nat->aJ) (M:bY):Prop:=∀i:Nat,(i:Int)<C.aD->jo i (S i) M.log=some (M.aB i)
theorem RPs.out {S:Nat->aJ} (h:RPs C S M) (z:Out C d M M'):RPs C S M':=by
 have one:∀{i:Nat} {s:aJ} {v:Ev},M'.aB=aI M.aB i s->M'.log=M.log++[v]->v.core=i->rp i (M.aB i) v=some s->RPs C S M':=by
  intro i s v a f q t j y;rw[a,f,Lm (h j y)];unfold aI;by_cases e:j=i;subst e;rw[aCx q,aCx rfl];exact t;grind
 cases z with
 |same a f u=>intro i k;rw[a,f];exact h i k
 |ev i s v k w A a f q t u=>exact one a f q t
 |ask i g k w A a f F u=>intro i k;rw[a,f];exact h i k
 |fin i g s v k w D a f q E B t u=>exact one a f q t
structure jn (C:bA) (S:Nat->aJ) (N:Nat) (M:bY):Prop where
 inv:cS C N M
 wait:N1 M
 jo:RPs C S M
theorem jn.P7 {S:Nat->aJ} (hC:C.Ok) (h:jn C S N M):jn C S (N+2) (M.P7 C d).1:=by
 have a:=mj (d:=d) hC h.inv h.wait;exact⟨y9 h.inv hC,h.wait.out hC h.inv a,h.jo.out a⟩
theorem jn.len {S:Nat->aJ} (h:jn C S N M):M.log.length<=N:=h.inv.log
theorem jn.runs {S:Nat->aJ} (hC:C.Ok):∀{l:List Do} {N:Nat} {M:bY},jn C S N M->jn C S (N+2*l.length) (M.runs C l):=by
 intro l;induction l with
 |nil=>intro N M h;exact h
 |cons d l a=>
  intro N M h;have:=a (h.P7 (d:=d) hC);rw[List.length_cons,show N+2*(l.length+1)=N+2+2*l.length by omega];exact this
end
end Go.Mc
namespace Go.Proofs.YtmhapehobfnoiaaGreatDoor
open Go Go.Ab Go.Hm Go.At Go.Mc Go.Ct Go.Nt Go.Is
section
theorem Wn {C:bA} {ps:List (List Ins)} {ws os vs:List Int} (h:wM C ps ws os vs=0):∀i:Nat,(i:Int)<C.aD->(Xy ps ws i).Ok:=by
 obtain⟨hC,t,u,v,w,f,y,z⟩:=K3 h;intro i B;have e:i<ps.length:=by omega
 have k:ps.getD i []∈ps:=by rw[List.getD_eq_getElem?_getD,List.getElem?_eq_getElem e];exact List.getElem_mem _
 have a:=A.uF f _ k;have g:=A.A9 a;refine⟨show(0:Int)<=0 by decide,show(0:Int)<=32 by decide,rfl,g,fun x q=>?_⟩;unfold gF at a;rw[aaa] at a;exact J4 _ _ a x q
theorem l9 {C:bA} {ps:List (List Ins)} {ws os vs:List Int} (h:wM C ps ws os vs=0):cS C 0 (MC.new ⟨C,ps,ws,os,vs⟩):=by
 obtain⟨hC,z,A,a,B,D,E,f⟩:=K3 h;refine⟨⟨?_,?_,fun g r v=>by cases v⟩,Wn h,fun i k=>Nb,fun i k=>⟨?_,?_⟩,fun l q=>?_,⟨fun c w=>?_,fun c w n t=>by cases t⟩,Nat.le_refl 0⟩;show(os.map fun o=>(⟨o,false⟩:dT)).length=_;rw[List.length_map];exact a;intro x y;obtain⟨o,u,rfl⟩:=List.mem_map.1 y;exact f o u;show((0:Nat):Int)<=C.entries;have:1<=C.entries:=by unfold bA.Ok at hC;omega
 omega;show(0:Int)<=0/\(0:Int)<C.aG;have:=hC.2.1.1;omega;have e:((MC.new ⟨C,ps,ws,os,vs⟩).home l).1=oW:=by
  show(kU C.lines l).1=oW;unfold kU;rw[aCx q]
 rw[e];exact⟨r6 l,Nat.zero_le _⟩;show((0:Nat):Int)<=C.depth;have:1<=C.depth:=hC.2.2.2.2.1.1;omega
theorem oh {C:bA} {ps:List (List Ins)} {ws os vs:List Int} (h:wM C ps ws os vs=0):Mc.jn C (Xy ps ws) 0 (MC.new ⟨C,ps,ws,os,vs⟩):=
 ⟨l9 h,⟨(fun g c a=>by cases a),(fun g e c a=>by cases a)⟩,fun i f=>rfl⟩
theorem jg {s:aJ} {k:Value->Prop} (f:k (.bool false)) {a:Bool} (e:a=true:=by kernel_rfl):Tc a [0,0,0,0,0,0,1] .neq (.agg ⟨s.core⟩) (.agg ⟨s.core⟩) k:=⟨e,_,by simp[Mx,lE,Nn,N8,aJ.core],f⟩
set_option maxRecDepth 100000
attribute [local irreducible] bB Br ld1 A5 I7 Cd kT yC kI Xx qS zP Bo pT nL mH yV A1 Xb T1 P6 P5 Tb Uj Mx Tc W6 kQ tQ tE iB copyV kV V5 Vo W0 Ed iZ Rp Vn Uz lZ rG Ay yZ Cl C9 Ui qR qH iO eI bS bG
variable {G:Bg} {h:AH} {L L':List HP} {Q:Value->AH->Prop} {Cf:bA} {m N:Nat} {M:bY}
def wj (G:Bg) (v:Value) (l:List Do):Prop:=oY G 4 v (l.map Do.enc).length (fun i=>(l.map Do.enc).getD i [])
end
end Go.Proofs.YtmhapehobfnoiaaGreatDoor
