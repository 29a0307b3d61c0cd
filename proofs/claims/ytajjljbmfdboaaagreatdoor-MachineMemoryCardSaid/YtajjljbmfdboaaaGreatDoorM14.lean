/- A part of the proof. -/
import Derived.Test.YtajjljbmfdboaaaGreatDoorM11
import Derived.Test.YtajjljbmfdboaaaGreatDoorM9
import Derived.Test.YtajjljbmfdboaaaGreatDoorM13
import Derived.Test.YtajjljbmfdboaaaGreatDoorM10
section
open Go Go.Ab
attribute [local irreducible] bE Br rT vO vB Dv nP xS mZ Ti iN nG pU sP rF lJ Cy xP Ya Xx Tj R3 Xc Td Rx Ub U1 mF pL vA kI copyV jQ zM Xp Yw Iz mA Pp Wr X7 pT tO Ao Cx Cl Bc Xb uL uF lI iQ cS cB
namespace Go.Proofs.YtajjljbmfdboaaaGreatDoor
open Go Go.Ab Go.Hm Go.At Go.Mc
section
instance:Fx dE 2:=⟨fun _=>rfl,fun _=>rfl⟩
def vf (p:Int×Int->Bool):List (Int×Int)->Nat->Int
 |[],_=> -1
 |x::l,i=>if p x then(i:Int) else vf p l (i+1)
theorem Li {p:Int×Int->Bool}:∀{l:List (Int×Int)} {i:Nat},(vf p l i= -1/\(∀x∈l,p x=false))\/∃j x,vf p l i=((i+j:Nat):Int)/\l[j]?=some x/\p x=true/\∀y∈l.take j,p y=false
 |[],i=> .inl ⟨rfl,fun _ h=>by cases h⟩
 |x::l,i=>by
  unfold vf;split;rename_i b;exact .inr ⟨0,x,by simp,rfl,b,fun _ h=>by cases h⟩;rename_i b;have b:p x=false:=by simpa using b
  rcases Li (p:=p) (l:=l) (i:=i+1) with⟨c,d⟩|⟨j,y,c,d,e,f⟩;refine .inl ⟨c,fun z a=>?_⟩;rcases List.mem_cons.1 a with rfl|a;exact b;exact d z a;refine .inr ⟨j+1,y,by rw[c];congr 1;omega,by simpa using d,e,fun z a=>?_⟩;rw[List.take_succ_cons] at a;rcases List.mem_cons.1 a with rfl|a;exact b;exact f z a
def isG (g:Int) (x:Int×Int):Bool:=decide (x.1=g)
theorem Ck {g:Int} {l:List (Int×Int)}:(vf (isG g) l 0= -1/\kE l g=none)\/∃(j:Nat) (x:Int×Int),vf (isG g) l 0=(j:Int)/\l[j]?=some x/\kE l g=some x.2:=by
 rcases Li (p:=isG g) (l:=l) (i:=0) with⟨b,a⟩|⟨j,x,b,a,c,d⟩;refine .inl ⟨b,?_⟩;unfold kE;rw[List.find?_eq_none.2 fun x k=>by have:=a x k;unfold isG at this;simpa using this];rfl;refine .inr ⟨j,x,by rw[b,Nat.zero_add],a,?_⟩;unfold kE;have:l.find? (fun x=>decide (x.1=g))=some x:=by
  rw[List.find?_eq_some_iff_append];refine⟨c,l.take j,l.drop (j+1),?_,fun y n=>by have:=d y n;unfold isG at this;simpa using this⟩;obtain⟨f,e⟩:=List.getElem?_eq_some_iff.1 a;rw[<-e,<-List.drop_eq_getElem_cons f,List.take_append_drop]
 rw[this];rfl
set_option maxRecDepth 100000
variable {G:Bg} {h:AH} {L L':List HP} {Q:Value->AH->Prop} {C:bM}
def zU (C:bM) (s:kO) (a:Option Addr) (c:Nat):List Value:=[.bool s.lA,I s.bI,I s.at',.bool s.nL,I C.entries,I C.aS,.slice a s.known.length c]
def kQ (p:Nat) (C:bM) (s:kO):HP:=vW fun x:Option Addr×Nat=>sp [aG p 0 (zU C s x.1 x.2),ls dE 2 261 x.1 x.2 s.known]
theorem mG {p:Nat} {s:kO} (b:Hs G h (kQ p C s::L)):∃a c,Hs G h (aG p 0 (zU C s a c)::ls dE 2 261 a c s.known::L):=by
 obtain⟨⟨a,c⟩,b⟩:=b.Et;exact⟨a,c,b.Hh⟩
theorem eQ (p:Nat) (C:bM) (s:kO) {a:Option Addr} {c:Nat} {cs:List Value} {l:List (Int×Int)} {b L2:List HP} (f:Hs G h L) [m:Has (aG p 0) L cs b] [g:Has (ls dE 2 261 a c) b l L2] (d:cs=zU C s a c) (e:l=s.known):Hs G h (kQ p C s::L2):=by
 subst d;subst e;exact Hs.Af (A:=fun x:Option Addr×Nat=>sp [aG p 0 (zU C s x.1 x.2),ls dE 2 261 x.1 x.2 s.known]) (a,c) (Hs.pack (A:=[_,_]) (f.perm (m.perm.trans (g.perm.cons _))))
theorem mz (hC:C.Ok) (d:Hs G h L) (g:∀p f,Hs G f (kQ p C Gz::L)->Q (.tuple ⟨[pt p 0 0,I 0]⟩) f):Cl Pr K 84 [I C.entries,I C.aS] h Q:=by
 have b:=hC;unfold bM.Ok at b;refine cW (aZ (aT (by omega) (mS (aT (by omega) (aZ (aT (by omega) (mS (aT (by omega) ?_))))))));refine aQ (c:=zU C Gz none 0) rfl (dS d fun p h d=>g _ _ ?_);exact eQ p C Gz (a:=none) (c:=0) ((uA (enc:=dE) (W:=2) (e:=261) d)) rfl rfl
theorem Gp {a:Option Addr} {c:Nat} {l:List (Int×Int)} (hb:l.length<=100) (j:Hs G h L) [m:Has (ls dE 2 261 a c) L l L']
  (g:∀b d f,Hs G f (ls dE 2 261 b d l::ls dE 2 261 a c l::L')->Q (.slice b l.length d) f):Cl Pr K 131 [.slice a l.length c] h Q:=
 cW (B1 (e:=261) (show Hs G h (dI 2 261 a c (l.length,eL dE l)::L') from m.of j) (by omega) g)
theorem D3 {p:Nat} {s:kO} (hb:s.known.length<=100) (d:Hs G h L) [m:Has (kQ p C) L s L'] (j:∀q e,Hs G e (kQ q C s::kQ p C s::L')->Q (pt q 0 0) e):Cl Pr K 81 [pt p 0 0] h Q:=by
 obtain⟨a,c,d⟩:=mG (m.of d);refine cW (dG (bZ (bW (aB (aU (b:=p) (o:=0) d (by decide) (l:=zU C s a c) rfl rfl (bP d fun q h d=>bH d rfl rfl rfl rfl fun h d=>?_))))));refine aB (aA (aC (b:=p) (o:=0) d rfl (Gp (a:=a) (c:=c) (l:=s.known) hb d fun f g h d=>aA (bL (b:=q) (o:=0) d rfl rfl rfl rfl fun h d=>j _ _ ?_))));have d:=eQ p C s (a:=a) (c:=c) (d.cX (aG p 0 (zU C s a c)) (ls dE 2 261 a c s.known)) rfl rfl;exact(eQ q C s (a:=f) (c:=g) d rfl rfl)
def aAt (G:Bg) (f:Value) (A:HP) (p:Int×Int->Bool):Prop:=∀(x:Int×Int) (h:AH) (L:List HP) (Q:Value->AH->Prop),Hs G h (A::L)->(∀a,Hs G a (A::L)->Q (.bool (p x)) a)->Bc Pr K f [.agg ⟨dE x⟩] h Q
theorem Uj {f:Value} {A:HP} {p:Int×Int->Bool} (q:aAt G f A p) {a:Option Addr} {c:Nat} {l:List (Int×Int)} (hb:l.length<=1000) (b:Hs G h (A::ls dE 2 261 a c l::L))
  (n:∀j,Hs G j (A::ls dE 2 261 a c l::L)->Q (I (vf p l 0)) j):Cl Pr K 287 [.slice a l.length c,f] h Q:=by
 refine cW (cC ?_)
 have loop:∀(k i:Nat) (h:AH),i+k=l.length->vf p l 0=vf p (l.drop i) i->Hs G h (A::ls dE 2 261 a c l::L)->Dd 287 1 [] Q [(.slice a l.length c),f,(I l.length),(I i)] h:=by
  intro k;induction k with
  |zero=>
   intro i h r d b;rw[List.drop_of_length_le (by omega)] at d;refine bW (aZ (aT (by omega) ?_));have:=n _ b;rw[d] at this;exact this
  |succ k u=>
   intro i h r d b;obtain⟨x,t,o⟩:=oD (l:=l) (i:=i) (by omega);rw[o,vf] at d;refine bW (aZ (bV (by omega) (bW (wN (l:=l) (a:=a) (c:=c) (enc:=dE) (e:=261) b (by decide) (by omega) (by rw[Int.toNat_natCast];exact t) (q x h _ _ b fun h b=>dH (fun g=>?_) (fun g=>?_))))));have:=n _ b;rw[d,aLb g] at this;exact this;rw[aLa (by rw[g];simp)] at d;exact bW (bQ (by omega) (u (i+1) h (by omega) d b))
 exact loop l.length 0 h (by omega) (by rw[List.drop_zero]) b
theorem aEe {p:Nat} {g:Int}:aAt G (.func (.func 288) #[] #[pt p 0 0]) (aG p 0 [I g]) (isG g):=by
 intro x h L Q a c;refine rA rfl (cW (dS a fun q h a=>aA (aC (b:=q) (o:=0) a rfl (aC (b:=p) (o:=0) a rfl (bJ (c _ a.tail))))))
theorem Jx {p:Nat} {s:kO} {g:Int} (hb:s.known.length<=100) (d:Hs G h L) [m:Has (kQ p C) L s L'] (f:∀e,Hs G e (kQ p C s::L')->Q (I (vf (isG g) s.known 0)) e):Cl Pr K 242 [pt p 0 0,I g] h Q:=by
 obtain⟨a,c,d⟩:=mG (m.of d);refine cW (dS d fun q h d=>aB (aA (aC (b:=p) (o:=0) d rfl ?_)));have d:Hs G h (aG q 0 [I g]::ls dE 2 261 a c s.known::aG p 0 (zU C s a c)::L'):=d.to;refine Uj aEe (by omega) d fun h d=>f _ ?_;exact(eQ p C s (a:=a) (c:=c) d rfl rfl).to
theorem pq {p:Nat} {s:kO} {w g:Int} (hb:s.known.length<=100) (d:Hs G h L) [m:Has (kQ p C) L s L'] (f:∀u,Hs G u (kQ p C s::L')->Q (.tuple ⟨[I (s.ask C w g).1,I (s.ask C w g).2]⟩) u):Cl Pr K 192 [pt p 0 0,I w,I g] h Q:=by
 obtain⟨a,c,d⟩:=mG (m.of d);unfold kO.ask at f;have k:∀{h:AH},Hs G h (aG p 0 (zU C s a c)::ls dE 2 261 a c s.known::L')->Hs G h (kQ p C s::L'):=fun d=>eQ p C s (a:=a) (c:=c) d rfl rfl;refine cW (dG (bZ (bW (aZ (aX (fun v=>?_) (fun v=>aB (aA (aC (b:=p) (o:=0) d rfl (dO (aX (fun y=>?_) (fun y=>aZ (aX (fun z=>?_) (fun z=>mS (aX (fun A=>?_) (fun A=>?_)))))))))))))));rw[aLa (by omega)] at f;exact f _ (k d);rw[aLa (by omega)] at f;exact f _ (k d);rw[aLa (by omega)] at f;exact f _ (k d);rw[aLa (by omega)] at f;exact f _ (k d);rw[aLb (by omega)] at f;refine bW (Jx (C:=C) hb (k d) fun h d=>aZ (aX (fun B=>?_) (fun B=>?_)));rcases Ck (g:=g) (l:=s.known) with⟨q,n⟩|⟨j,x,q,n,t⟩;rw[n] at f;exact f _ d;omega;rcases Ck (g:=g) (l:=s.known) with⟨q,n⟩|⟨j,x,q,n,t⟩;omega;rw[t] at f;rw[q];obtain⟨a,c,d⟩:=mG d;refine bW (aB (aA (aC (b:=p) (o:=0) d rfl (qh (l:=s.known) (a:=a) (c:=c) (enc:=dE) (e:=261) d (by omega) (by rw[Int.toNat_natCast];exact n) rfl (Rm (dH (fun r=>?_) (fun r=>?_)))))));simp only[r,if_true] at f;exact f _ (eQ p C s (a:=a) (c:=c) d rfl rfl);simp only[r] at f;exact f _ (eQ p C s (a:=a) (c:=c) d rfl rfl)
theorem Ul {p:Nat} {s:kO} {g:Int} (hC:C.Ok) (hb:s.known.length<=100) (d:Hs G h L) [m:Has (kQ p C) L s L'] (e:∀t,Hs G t (kQ p C (s.begin C g).1::L')->Q (.tuple ⟨[I (s.begin C g).2.1,I (s.begin C g).2.2]⟩) t):Cl Pr K 244 [pt p 0 0,I g] h Q:=by
 have y:=hC.2.1.2;obtain⟨a,c,d⟩:=mG (m.of d);unfold kO.begin at e;have f:∀{h:AH},Hs G h (aG p 0 (zU C s a c)::ls dE 2 261 a c s.known::L')->Hs G h (kQ p C s::L'):=fun d=>eQ p C s (a:=a) (c:=c) d rfl rfl;refine cW (dG (bZ (bW (aZ (aX (fun u=>?_) (fun u=>aB (aA (aC (b:=p) (o:=0) d rfl (dO (aX (fun v=>?_) (fun v=>?_)))))))))));rw[aLb (by omega)] at e;exact e _ (f d);rw[aLb (by omega)] at e;exact e _ (f d);rw[aLa (by omega)] at e;refine bW (Jx (C:=C) hb (f d) fun h d=>dO (aX (fun w=>?_) (fun w=>?_)));rcases Ck (g:=g) (l:=s.known) with⟨n,k⟩|⟨j,x,n,k,r⟩;omega;rw[r] at e;exact e _ d;rcases Ck (g:=g) (l:=s.known) with⟨n,k⟩|⟨j,x,n,k,r⟩;rw[k] at e;simp only[Option.isSome_none,Bool.false_eq_true,if_false] at e;obtain⟨a,c,d⟩:=mG d;refine bW (aB (aA (aA (aC (b:=p) (o:=0) d rfl (dH (fun q=>?_) (fun q=>?_))))));simp only[q,if_true] at e;exact e _ (eQ p C s (a:=a) (c:=c) d rfl rfl);simp only[q,Bool.false_eq_true,if_false] at e;refine bW (wM (by omega) (aH rfl (aH rfl (bC (aT (by omega) (bW (aQ (c:=[.bool true,I g,I (g/4),.bool false]) rfl (aB (aA (bL (b:=p) (o:=0) d rfl rfl rfl rfl fun h d=>e _ ?_))))))))));exact eQ p C (s.start g) (a:=a) (c:=c) d rfl rfl;omega
end
section
theorem aEu (m:Nat):(eK [I 0,I 0] m).length=m*2/\(eK [I 0,I 0] m).all eJ=true:=by
 have:eK [I 0,I 0] m=eL dE (List.replicate m (0,0)):=by
  induction m with
  |zero=>rfl
  |succ m a=>rw[List.replicate_succ,oT,<-a];rfl
 rw[this];exact⟨by rw[Em,List.length_replicate],Md⟩
set_option maxRecDepth 100000
variable {G:Bg} {h:AH} {L L':List HP} {Q:Value->AH->Prop} {C:bM}
theorem Zz {a:Option Addr} {c:Nat} {l:List (Int×Int)} (n:0<l.length) (d:Hs G h L) [m:Has (ls dE 2 261 a c) L l L']
  (y:∀k,Hs G k (ls dE 2 261 a c (l.drop 1)::L')->Q (.slice a (l.drop 1).length c) k):Cl Pr K 304 [.slice a l.length c,I 0,I 1] h Q:=by
 have d:Hs G h (dI 2 261 a c (l.length,eL dE l)::L'):=m.of d
 have f:l.length<=c:=by
  obtain⟨r,A,⟨_,_,z⟩,_⟩:=d.fst;rcases z with⟨j,_⟩|⟨j,_⟩|⟨f,_⟩;simp only at j;omega;simp only at j;omega;exact f
 obtain⟨b,o,w,_⟩:=d.oW n
 refine cW (cC ?_)
 refine X3 (v:= .slice (some ⟨b,o+0*2,none⟩) (0+1 - 0) (l.length - 0)) ?_ ?_
 .subst w;have q:lR (some (I l.length)) c c=some l.length:=by simp only[lR];rw[aLb (by omega)];simp
  have t:lR (some (I 1)) l.length l.length=some 1:=by simp only[lR];rw[aLb (by omega)];rfl
  have u:lR (some (I 0)) 0 1=some 0:=by simp only[lR];rw[aLb (by omega)];rfl
  have g:¬l.length=0:=by omega
  simp only[zM,q,t,u,Option.isNone_some,Bool.false_and,Option.isSome_none,Bool.false_eq_true,if_false,g,dB]
  rw[aLb (by omega)]
 refine bJ (aT (by omega) (bW (cC (bB d ?_))))
 intro r h d
 refine aCu (i:=0) (by decide) rfl rfl n d ?_
 intro h d
 have e:(eL dE l).take (0*2)++(eL dE l).drop ((0+1)*2)=eL dE (l.drop 1):=by rw[Qp];simp
 rw[e] at d
 have:=y h
 rw[List.length_drop] at this
 refine this ?_
 unfold ls
 rw[List.length_drop]
 exact d.to
theorem vr {p:Nat} {s:kO} {x:Int×Int} (hC:C.Ok) (hb:s.known.length<=100) (d:Hs G h L) [m:Has (kQ p C) L s L'] (g:∀t,Hs G t (kQ p C (s.Ah C x)::L')->Q (.tuple ⟨[]⟩) t):Cl Pr K 259 [pt p 0 0,.agg ⟨dE x⟩] h Q:=by
 have v:1<=C.entries/\C.entries<=8:=hC.2.2.2.2.2.1;obtain⟨a,c,d⟩:=mG (m.of d);unfold kO.Ah at g;refine cW (dS d fun q h d=>bB d fun w h d=>?_);refine aB (aA (aC (b:=p) (o:=0) d rfl (cC (aB (aA (aC (b:=p) (o:=0) d rfl (dO (aX (fun n=>?_) (fun n=>?_)))))))));rw[aLb n] at g;refine bW (aB (aA (aC (b:=p) (o:=0) d rfl (Zz (a:=a) (c:=c) (l:=s.known) (by omega) d fun h d=>?_))));refine aB (aA (bL (b:=p) (o:=0) d rfl rfl rfl rfl fun h d=>bB d fun u h d=>aB (aA (aC (b:=p) (o:=0) d rfl (aU (b:=q) (o:=0) d (by decide) (l:=dE x) rfl rfl (aQ (c:=dE x) rfl (jZ (i:=6) (N:=11) (D:=[]) d rfl rfl rfl rfl rfl fun f h d=>?_)))))));refine uZ (enc:=dE) (W:=2) (e:=261) (a:=a) (c:=c) (l:=s.known.drop 1) (a2:=some f) (c2:=1) (l2:=[x]) (show Hs G h (ls dE 2 261 (some f) 1 [x]::_) from d) (by simp;omega) fun j k h d=>?_;refine aB (aA (bL (b:=p) (o:=0) d rfl rfl rfl rfl fun h d=>cY dJ (g _ ?_)));exact(eQ p C {s with known:=s.known.drop 1++[x]} (a:=j) (c:=k) d rfl rfl).to;rw[aLa n] at g;refine bB d fun u h d=>aB (aA (aC (b:=p) (o:=0) d rfl (aU (b:=q) (o:=0) d (by decide) (l:=dE x) rfl rfl (aQ (c:=dE x) rfl (jZ (r:=u) (i:=6) (N:=11) (D:=[]) d rfl rfl rfl rfl rfl fun f h d=>?_)))));refine uZ (enc:=dE) (W:=2) (e:=261) (a:=a) (c:=c) (l:=s.known) (a2:=some f) (c2:=1) (l2:=[x]) (show Hs G h (ls dE 2 261 (some f) 1 [x]::_) from d) (by simp;omega) fun j k h d=>?_;refine aB (aA (bL (b:=p) (o:=0) d rfl rfl rfl rfl fun h d=>cY dJ (g _ ?_)));exact(eQ p C {s with known:=s.known++[x]} (a:=j) (c:=k) d rfl rfl).to
theorem m9 {p:Nat} {s:kO} {at' w:Int} (hC:C.Ok) (hb:s.known.length<=100) (H:0<=s.bI/\s.bI<C.aS) (R:0<=w/\w<=1000000) (d:Hs G h L) [m:Has (kQ p C) L s L']
  (f:∀l,Hs G l (kQ p C (s.walked C at' w).1::L')->Q (.tuple ⟨[I (s.walked C at' w).2.1,.bool (s.walked C at' w).2.2.1,I (s.walked C at' w).2.2.2]⟩) l):Cl Pr K 206 [pt p 0 0,I at',I w] h Q:=by
 have P:=hC.2.1
 obtain⟨a,c,d⟩:=mG (m.of d)
 unfold kO.walked at f
 have t:∀{h:AH},Hs G h (aG p 0 (zU C s a c)::ls dE 2 261 a c s.known::L')->Hs G h (kQ p C s::L'):=fun d=>eQ p C s (a:=a) (c:=c) d rfl rfl
 refine cW (dG (bZ (bW (aB (aA (aA (aC (b:=p) (o:=0) d rfl (cE (eO (dH (fun y=>?_) (fun y=>?_)))))))))))
 rotate_left
 .rw[aLb y] at f;exact f _ (t d)
 rw[aLa (by rw[y];simp)] at f
 refine bW (aB (aA (aA (aC (b:=p) (o:=0) d rfl (bC (aX (fun z=>?_) (fun z=>?_)))))))
 .rw[aLb z] at f;exact f _ (t d)
 rw[aLa z] at f
 refine bW (aB (aA (aA (aC (b:=p) (o:=0) d rfl (wM (by omega) (aH rfl (aH rfl (bC (aT (by omega) (bW (aB (aA (aA (aC (b:=p) (o:=0) d rfl (dH (fun A=>?_) (fun A=>?_))))))))))))))))
 .rw[aLb A] at f;refine bW (aB (aA (aA (bL (b:=p) (o:=0) d rfl rfl rfl rfl fun h d=>aB (aA (aA (bL (b:=p) (o:=0) d rfl rfl rfl rfl fun h d=>f _ ?_)))))));exact eQ p C s.fresh (a:=a) (c:=c) d rfl rfl
 rw[aLa (by rw[A];simp)] at f
 refine bW (bB d fun T h d=>aB (aA (aC (b:=p) (o:=0) d rfl (aB (aA (aA (aC (b:=p) (o:=0) d rfl (sv (n:=C.aS) (g:=s.bI) ⟨P,H⟩ R d fun h d=>?_))))))))
 generalize iY C.aS s.bI at' w=r at f
 obtain⟨nx,x,S,e⟩:=r
 simp only at f ⊢
 refine aH rfl (aH rfl (aH rfl (aH rfl (lN (i:=17) (n:=22) (D:=[]) d rfl rfl fun j h d=>bH (b:=j) d rfl rfl rfl rfl fun h d=>cY (aH rfl aHm) (cY (aH rfl jH) (bC (aX (fun B=>?_) (fun B=>?_))))))))
 .rw[aLb B] at f;exact f _ (t d.to)
 rw[aLa B] at f
 have k:∀{h:AH} {M:List HP} (v:Int) (u:kO),[Sub M L']->zU C u a c=dR (zU C s a c) 2 [I v]->u.known=s.known->Hs G h (aG p 0 (zU C s a c)::ls dE 2 261 a c s.known::M)->(∀l,Hs G l (kQ p C u::L')->Q (.tuple ⟨[I v,.bool false,I 0]⟩) l)->Dd 206 10 [] Q [(pt p 0 0),(I v)] h:=by
  intro h M v u _ O J d N;refine bW (aB (aA (aA (bL (b:=p) (o:=0) d rfl rfl rfl rfl fun h d=>N _ ?_))));have:=eQ p C u (a:=a) (c:=c) d O.symm J.symm;exact this.to
 have q:∀{h:AH},Hs G h (aG j 0 x.enc::aG p 0 (zU C s a c)::ls dE 2 261 a c s.known::L')->(∀l,Hs G l (kQ p C (s.Ah C (s.bI,x.owner)).done::L')->Q (.tuple ⟨[I 0,.bool true,I 0]⟩) l)->Dd 206 11 [] Q [(pt p 0 0),(pt j 0 0)] h:=by
  intro h d N;refine bW (bB d fun U h d=>aB (aA (aA (aC (b:=p) (o:=0) d rfl (aA (aC (b:=j) (o:=0) d rfl (aQ (c:=dE (s.bI,x.owner)) rfl ?_)))))));have d:=eQ p C s (a:=a) (c:=c) d rfl rfl;refine vr hC hb d fun h d=>?_;obtain⟨a3,c3,d⟩:=mG d;refine aQ (c:=[.bool false,I 0,I 0,.bool false]) rfl (aB (aA (bL (b:=p) (o:=0) d rfl rfl rfl rfl fun h d=>N _ ?_)));exact(eQ p C (s.Ah C (s.bI,x.owner)).done (a:=a3) (c:=c3) d rfl rfl).to
 have d:Hs G h (aG j 0 x.enc::aG p 0 (zU C s a c)::ls dE 2 261 a c s.known::L'):=d.to
 refine bW (dH (fun E=>?_) (fun E=>?_))
 .subst E;refine aA (aC (b:=j) (o:=0) d rfl (dH (fun F=>?_) (fun F=>?_)))
  .rw[aLb ⟨rfl,F⟩] at f;exact bW (cE (fK (k (M:=aG j 0 x.enc::L') (s.bI/4) (s.goto (s.bI/4)) rfl rfl d.to f)))
  .rw[aLa (by rw[F];simp),aLa (by simp)] at f;exact bW (cE (bZ (q d f)))
 .subst E;rw[aLa (by simp),aLb rfl] at f;exact cE (fK (k (M:=aG j 0 x.enc::L') nx (s.goto nx) rfl rfl d.to f))
def qJ (g:Int) (x:Int×Int):Bool:=decide (g= -1\/x.1=g)
theorem la {p q:Nat} {g:Int}:aAt G (.func (.func 262) #[] #[pt p 0 0]) (sp [aG p 0 [.func (.func 260) #[] #[pt q 0 0]],aG q 0 [I g]]) (qJ g):=by
 intro x h L Q a f;have a:=a.Hh;have c:∀{h:AH} {M:List HP} {b:Bool},[Sub M L]->b=qJ g x->Hs G h (aG p 0 [.func (.func 260) #[] #[pt q 0 0]]::aG q 0 [I g]::M)->Q (.bool b) h:=by
  intro h M b _ e a;show Q _ _;rw[e];exact f _ (Hs.H9 a.to)
 refine rA rfl (cW (dS a fun r h a=>aC (b:=p) (o:=0) a rfl (aA (aC (b:=r) (o:=0) a rfl ?_))));refine rA rfl (cW (aC (b:=q) (o:=0) a rfl (bJ (aX (fun d=>?_) (fun d=>aC (b:=q) (o:=0) a rfl (bJ ?_))))));exact c (M:=aG r 0 (dE x)::L) (by unfold qJ;rw[decide_eq_true (.inl d)]) a.to;exact c (M:=aG r 0 (dE x)::L) (by unfold qJ;exact decide_eq_decide.2 (by omega)) a.to
theorem Ze {f:Value} {A:HP} {p:Int×Int->Bool} (P:aAt G f A p) {a:Option Addr} {c:Nat} {l:List (Int×Int)} (hb:l.length<=1000) (d:Hs G h (A::ls dE 2 261 a c l::L))
  (F:∀O,Hs G O (A::ls dE 2 261 a c (l.filter fun x=> !p x)::L)->Q (.slice a (l.filter fun x=> !p x).length c) O):Cl Pr K 261 [.slice a l.length c,f] h Q:=by
 refine cW (Uj P hb d fun h d=>?_)
 rcases Li (p:=p) (l:=l) (i:=0) with⟨B,r⟩|⟨j,x,B,r,T,U⟩
 .rw[B];have W:l.filter (fun x=> !p x)=l:=List.filter_eq_self.2 fun x hx=>by rw[r x hx];rfl
  rw[W] at F
  exact bJ (bV (by omega) (F _ d))
 rw[B]
 have Z:=(List.getElem?_eq_some_iff.1 r).1
 refine bJ (aT (by omega) (bW (bQ (by omega) ?_)))
 have loop:∀(k i:Nat) (m:List (Int×Int)) (h:AH),i+k=l.length->m.length<i->m=(l.take i).filter (fun x=> !p x)->∀t:List (Int×Int),(m++t).length=i->Hs G h (A::ls dE 2 261 a c (m++t++l.drop i)::L)->
   Dd 261 2 [] Q [(.slice a l.length c),f,(I m.length),(I i)] h:=by
  intro k
  induction k with
  |zero=>
   intro i m h X hm u t q d
   have v:i=l.length:=by omega
   refine bW (cC (aZ (aT (by omega) (bW ?_))))
   rw[v,List.take_length] at u
   rw[v,List.drop_length,List.append_nil] at d
   have d:Hs G h (dI 2 261 a c ((m++t).length,eL dE (m++t))::A::L):=d.mK
   have H:(m++t).length=l.length:=by omega
   rw[<-H]
   refine aHg (n:=(m++t).length) (i:=m.length) (e:=261) (cs:=eL dE (m++t)) (by decide) aEu (by omega) d fun h d=>?_
   have:=F h
   rw[<-u] at this
   refine this ?_
   rw[dn,List.take_left] at d
   exact d.mK
  |succ k R=>
   intro i m h X hm u t q d
   obtain⟨y,J,E⟩:=oD (l:=l) (i:=i) (by omega)
   have g:(m++t++l.drop i).length=l.length:=by rw[List.length_append,q,List.length_drop];omega
   have N:(m++t++l.drop i)[i]?=some y:=by rw[List.getElem?_append_right (by omega),q,Nat.sub_self,E];rfl
   have w:l.take (i+1)=l.take i++[y]:=by rw[List.take_add_one,J];rfl
   refine bW (cC (aZ (bV (by omega) (bW ?_))))
   rw[<-g]
   refine wN (l:=m++t++l.drop i) (a:=a) (c:=c) (enc:=dE) (e:=261) d (by decide) (by omega) (by rw[Int.toNat_natCast];exact N) (bP d fun S h d=>bH d rfl rfl rfl rfl fun h d=>aU (b:=S) (o:=0) d (by decide) (l:=dE y) rfl rfl ?_)
   refine P y h _ _ (d.front A) fun h d=>cE (eO (dH (fun D=>?_) (fun D=>?_)))
   .refine bW (bQ (by omega) ?_);have:=R (i+1) m h (by omega) (by omega) (by rw[w,List.filter_append,<-u];simp[D]) (t++[y]) (by simp at q ⊢;omega);rw[g];refine this ?_;rw[show m++(t++[y])++l.drop (i+1)=m++t++l.drop i by rw[E];simp];exact d.to
   .refine bW (aU (b:=S) (o:=0) d (by decide) (l:=dE y) rfl rfl ?_);refine dq (l:=m++t++l.drop i) (a:=a) (c:=c) (enc:=dE) (e:=261) (y:=y) d (by decide) (by omega) (by omega) fun h d=>?_;cases t with
    |nil=>simp at q;omega
    |cons z t=>
     refine bQ (by omega) (bQ (by omega) ?_)
     have:=R (i+1) (m++[y]) h (by omega) (by simp;omega) (by rw[w,List.filter_append,<-u];simp[D]) (t++[y]) (by simp at q ⊢;omega)
     rw[List.length_append] at this
     rw[g]
     refine this ?_
     have V:(m++z::t++l.drop i).set ((m.length:Int)).toNat y=m++[y]++(t++[y])++l.drop (i+1):=by
      rw[Int.toNat_natCast,E,List.append_assoc,List.set_append_right _ _ (Nat.le_refl _),Nat.sub_self];simp
     rw[<-V]
     exact d.to
 have:=loop (l.length - (j+1)) (j+1) (l.take j) h (by omega) (by rw[List.length_take];omega) ?_ [x] ?_ ?_
 .rw[List.length_take,Nat.min_eq_left (by omega)] at this;rw[Nat.zero_add];exact this
 .rw[List.take_add_one,r,List.filter_append];rw[List.filter_eq_self.2 fun y J=>by rw[U y J];rfl];simp[T]
 .simp;omega
 .rw[show l.take j++[x]++l.drop (j+1)=l by
   obtain⟨Y,ex⟩:=List.getElem?_eq_some_iff.1 r;rw[<-ex,List.append_assoc,List.singleton_append,<-List.drop_eq_getElem_cons Y,List.take_append_drop]]
  exact d
end
section
set_option maxRecDepth 100000
variable {G:Bg} {h:AH} {L L':List HP} {Q:Value->AH->Prop} {C:bM}
theorem X4 {p:Nat} {s:kO} {g:Int} (hb:s.known.length<=100) (d:Hs G h L) [m:Has (kQ p C) L s L']
  (e:∀n v,Hs G v (kQ p C (s.drop C g).1::L')->Q (.tuple ⟨[I n,I (s.drop C g).2]⟩) v):Cl Pr K 208 [pt p 0 0,I g] h Q:=by
 obtain⟨a,c,d⟩:=mG (m.of d)
 unfold kO.drop at e
 have j:∀{h:AH} {M:List HP},[Sub M L']->Hs G h (aG p 0 (zU C s a c)::ls dE 2 261 a c s.known::M)->Hs G h (kQ p C s::L'):=fun d=>(eQ p C s (a:=a) (c:=c) d rfl rfl).to
 refine cW (dS d fun q h d=>dG (bZ (bW (bB d fun r h d=>aC (b:=q) (o:=0) d rfl (aZ (aX (fun w=>?_) (fun w=>?_)))))))
 .rw[aLb (.inl w)] at e;exact e _ _ (j (M:=aG q 0 [I g]::L') d.to)
 refine aC (b:=q) (o:=0) d rfl (aB (aA (aC (b:=p) (o:=0) d rfl (dO (aX (fun y=>?_) (fun y=>?_))))))
 .rw[aLb (.inr y)] at e;exact e _ _ (j (M:=aG q 0 [I g]::L') d.to)
 rw[aLa (by omega)] at e
 dsimp only at e
 refine bW (bP d fun p1 h d=>bH (b:=p1) d rfl rfl rfl rfl fun h d=>aB (aA (aC (b:=p) (o:=0) d rfl (cC (aB (aA (aC (b:=p) (o:=0) d rfl ?_)))))))
 have d:=d.cX (aG p1 0 [.func (.func 260) #[] #[pt q 0 0]]) (aG q 0 [I g])
 have d:=d.H9
 have d:=d.cX (sp [aG p1 0 [.func (.func 260) #[] #[pt q 0 0]],aG q 0 [I g]]) (ls dE 2 261 a c s.known)
 refine Ze (la (p:=p1) (q:=q) (g:=g)) (by omega) d fun h d=>?_
 have d:=d.Hh
 refine aB (aA (bL (b:=p) (o:=0) d rfl rfl rfl rfl fun h d=>bB d fun B h d=>aB (aA (aA (aC (b:=p) (o:=0) d rfl ?_)))))
 have A:s.known.filter (fun x=> !qJ g x)=s.known.filter (fun x=> !decide (g= -1\/x.1=g)):=rfl
 have tail:∀{h:AH} {M:List HP} (st:Bool),[Sub M L']->Hs G h (aG p 0 [.bool s.lA,I s.bI,I s.at',.bool st,I C.entries,I C.aS,.slice a (s.known.filter fun x=> !qJ g x).length c]::ls dE 2 261 a c (s.known.filter fun x=> !qJ g x)::M)->
   st=(s.nL||(s.lA&&decide (g= -1\/s.bI=g)))->∀n:Int,Q (.tuple ⟨[I n,I 0]⟩) h:=by
  intro h M st _ d u n
  refine e n h ?_
  rw[<-u]
  have:=eQ p C {s with known:=s.known.filter fun x=> !qJ g x,nL:=st} (a:=a) (c:=c) d rfl rfl
  exact(show Hs G h (kQ p C {s with known:=s.known.filter (fun x=> !decide (g= -1\/x.1=g)),nL:=st}::M) from this).to
 refine dH (fun k=>?_) (fun k=>?_)
 .refine aC (b:=p1) (o:=0) d rfl (aB (aA (aA (aC (b:=p) (o:=0) d rfl ?_))));refine rA rfl (cW (aC (b:=q) (o:=0) d rfl (bJ ?_)));have go:∀{b:Bool},b=decide (g= -1\/s.bI=g)->Br (.bool b) (Dd 208 3 [] Q [(pt p 0 0),(I s.known.length)] h) (bE (nG (pt p 0 0)) fun v26=>bE (iN 6 v26) fun v27=>bE (rT h v27) fun v28=>bE (lJ v28) fun v29=>bE (xP .sub (I s.known.length) v29) fun v30=>Q (.tuple ⟨[v30,(I 0)]⟩) h):=by
   intro b f;have t:=List.length_filter_le (fun x=> !qJ g x) s.known;refine dH (fun l=>?_) (fun l=>?_);refine bW (aB (aA (aA (bL (b:=p) (o:=0) d rfl rfl rfl rfl fun h d=>aB (aA (aC (b:=p) (o:=0) d rfl (cC (Eb (by omega) ?_))))))));refine tail (M:=aG p1 0 [.func (.func 260) #[] #[pt q 0 0]]::aG q 0 [I g]::L') true (d.sg (b:=p) (o:=0) (c:=[.bool s.lA,I s.bI,I s.at',.bool true,I C.entries,I C.aS,.slice a (s.known.filter fun x=> !qJ g x).length c]) rfl).to ?_ _;rw[<-f,l,k];simp;refine aB (aA (aC (b:=p) (o:=0) d rfl (cC (Eb (by omega) ?_))));refine tail (M:=aG p1 0 [.func (.func 260) #[] #[pt q 0 0]]::aG q 0 [I g]::L') s.nL (d.sg (b:=p) (o:=0) (c:=[.bool s.lA,I s.bI,I s.at',.bool s.nL,I C.entries,I C.aS,.slice a (s.known.filter fun x=> !qJ g x).length c]) rfl).to ?_ _;rw[<-f,l,k];simp
  refine aX (fun z=>go (by rw[decide_eq_true (.inl z)])) (fun z=>aC (b:=q) (o:=0) d rfl (bJ (go (decide_eq_decide.2 (by omega)))))
 .have t:=List.length_filter_le (fun x=> !qJ g x) s.known;refine aB (aA (aC (b:=p) (o:=0) d rfl (cC (Eb (by omega) ?_))));refine tail (M:=aG p1 0 [.func (.func 260) #[] #[pt q 0 0]]::aG q 0 [I g]::L') s.nL (d.sg (b:=p) (o:=0) (c:=[.bool s.lA,I s.bI,I s.at',.bool s.nL,I C.entries,I C.aS,.slice a (s.known.filter fun x=> !qJ g x).length c]) rfl).to ?_ _;rw[k];simp
def Sz (q:Nat) (l:List (Int×Int)):HP:=vW fun x:Option Addr×Nat=>sp [aG q 0 [.slice x.1 l.length x.2],ls dE 2 261 x.1 x.2 l]
theorem mu {p:Nat} {s:kO} (hb:s.known.length<=100) (d:Hs G h L) [m:Has (kQ p C) L s L'] (j:∀q g,Hs G g (Sz q s.known::kQ p C s::L')->Q (.func (.func 132) #[] #[pt q 0 0]) g):Cl Pr K 71 [pt p 0 0] h Q:=by
 obtain⟨a,c,d⟩:=mG (m.of d);refine cW (bP d fun q h d=>sa (fK (bW (aB (aA (aC (b:=p) (o:=0) d rfl (Gp (a:=a) (c:=c) (l:=s.known) hb d fun e f h d=>bH (b:=q) d rfl rfl rfl rfl fun h d=>j q _ ?_)))))));have d:=eQ p C s (a:=a) (c:=c) (d.cX (aG p 0 (zU C s a c)) (ls dE 2 261 a c s.known)) rfl rfl;have d:=d.cX (aG q 0 [.slice e s.known.length f]) (ls dE 2 261 e f s.known);exact Hs.Af (A:=fun x:Option Addr×Nat=>sp [aG q 0 [.slice x.1 s.known.length x.2],ls dE 2 261 x.1 x.2 s.known]) (e,f) d.H9
theorem aBa {q:Nat} {l:List (Int×Int)} (hb:l.length<=1000):xi Pr K G 132 [] [pt q 0 0] (Sz q l) (l.map dE):=by
 intro k J y L h Q d E t u;obtain⟨⟨a,c⟩,d⟩:=d.Et;have d:=d.Hh;have g:∀{h:AH} {M:List HP},Hs G h (aG q 0 [.slice a l.length c]::ls dE 2 261 a c l::M)->Hs G h (Sz q l::M):=fun d=>Hs.Af (A:=fun x:Option Addr×Nat=>sp [aG q 0 [.slice x.1 l.length x.2],ls dE 2 261 x.1 x.2 l]) (a,c) d.H9;refine cW (aC (b:=q) (o:=0) d rfl (cC ?_));have loop:∀(f i:Nat) (h:AH),i+f=l.length->Hs G h (aG q 0 [.slice a l.length c]::ls dE 2 261 a c l::k ((l.drop i).map dE)::L)->Dd 132 1 [] Q [y,(.slice a l.length c),(I l.length),(I i)] h:=by
  intro f;induction f with
  |zero=>
   intro i h z d;rw[List.drop_of_length_le (by omega)] at d;exact bW (aZ (aT (by omega) (t _ _ (g d))))
  |succ f F=>
   intro i h z d;obtain⟨x,D,w⟩:=oD (l:=l) (i:=i) (by omega);rw[w,List.map_cons] at d;refine bW (aZ (bV (by omega) (bW (wN (l:=l) (a:=a) (c:=c) (enc:=dE) (e:=261) d (by decide) (by omega) (by rw[Int.toNat_natCast];exact D) (bP d fun n h d=>bH d rfl rfl rfl rfl fun h d=>aA (aC (b:=n) (o:=0) d rfl (aA (aC (b:=n) (o:=0) d rfl ?_))))))));refine(E _ _ h _ (d.front (k (dE x::((l.drop (i+1)).map dE))))).mono fun v r B=>?_;rcases B with⟨rfl,j⟩|⟨rfl,j⟩;exact cE (bZ (bW (bQ (by omega) (F (i+1) r (by omega) j.to))));exact cE (fK (u _ _ (g j.to)))
 exact loop l.length 0 h (by omega) (by rw[List.drop_zero];exact d)
end
section
instance:Fx aJ.enc 9:=⟨fun _=>rfl,fun _=>rfl⟩
set_option maxRecDepth 100000
variable {G:Bg} {h:AH} {L L':List HP} {Q:Value->AH->Prop} {C:bM}
abbrev vS (a:Option Addr) (c:Nat) (l:List aJ):HP:=ls aJ.enc 9 175 a c l
def pV (C:bM) (p:Nat) (l:List aJ):HP:=vW fun x:Option Addr×Nat=>sp [aG p 0 [I C.depth,.slice x.1 l.length x.2],vS x.1 x.2 l]
theorem Fb {p:Nat} {l:List aJ} (b:Hs G h (pV C p l::L)):∃a c,Hs G h (aG p 0 [I C.depth,.slice a l.length c]::vS a c l::L):=by
 obtain⟨⟨a,c⟩,b⟩:=b.Et;exact⟨a,c,b.Hh⟩
theorem qK {p:Nat} {l:List aJ} {a:Option Addr} {c:Nat} (b:Hs G h (aG p 0 [I C.depth,.slice a l.length c]::vS a c l::L)):Hs G h (pV C p l::L):=
 Hs.Af (A:=fun x:Option Addr×Nat=>sp [aG p 0 [I C.depth,.slice x.1 l.length x.2],vS x.1 x.2 l]) (a,c) b.H9
theorem iw (hC:C.Ok) (a:Hs G h L) (d:∀p b,Hs G b (pV C p []::L)->Q (.tuple ⟨[pt p 0 0,I 0]⟩) b):Cl Pr K 147 [I C.depth] h Q:=by
 have f:1<=C.depth/\C.depth<=16:=hC.2.2.2.2.1;refine cW (aZ (aT (by omega) (mS (aT (by omega) (aQ (c:=[I C.depth,.slice none 0 0]) rfl (dS a fun p h a=>d _ _ ?_))))));have a:=(uA (enc:=aJ.enc) (W:=9) (e:=175) a).mK;exact qK a
theorem Fp {a:Option Addr} {c:Nat} {l:List aJ} (hb:l.length<=2^30) (g:Hs G h L) [m:Has (vS a c) L l L']
  (f:∀b c' d,Hs G d (vS b c' l::vS a c l::L')->Q (.slice b l.length c') d):Cl Pr K 139 [.slice a l.length c] h Q:=
 cW (B1 (e:=175) (show Hs G h (dI 9 175 a c (l.length,eL aJ.enc l)::L') from m.of g) (by omega) f)
theorem da {p:Nat} {l:List aJ} (g:1<=C.depth/\C.depth<=16) (hb:l.length<=1000) (d:Hs G h L) [m:Has (pV C p) L l L'] (f:∀e,Hs G e (pV C p l::L')->Q (I (C.depth - l.length)) e):Cl Pr K 269 [pt p 0 0] h Q:=by
 obtain⟨a,c,d⟩:=Fb (m.of d);refine cW (dG (bZ (bB d fun r h d=>aB (aA (aC (b:=p) (o:=0) d rfl (aB (aA (aC (b:=p) (o:=0) d rfl (cC (Eb (by omega) (f _ ?_)))))))))));exact qK (a:=a) (c:=c) d.to
theorem aBp {p:Nat} {l:List aJ} {n:aJ} {a2:Option Addr} {c2:Nat} (k:1<=C.depth/\C.depth<=16) (hb:(l.length:Int)<C.depth) (d:Hs G h L) [m:Has (pV C p) L l L'] {M:List HP} [r:dX (vS a2 c2 [n]) L' M] (q:∀j,Hs G j (pV C p (l++[n])::M)->Q (I 0) j):
  Cl Pr K 216 [pt p 0 0,.slice a2 1 c2] h Q:=by
 have d:Hs G h (pV C p l::vS a2 c2 [n]::M):=(m.of d).perm (r.perm.cons _)
 refine cW (dG (bZ (bW (cC (da (C:=C) (p:=p) (l:=l) k (by omega) d fun h d=>mS (aT (by omega) ?_))))))
 obtain⟨a,c,d⟩:=Fb d
 refine bW (aB (aA (aC (b:=p) (o:=0) d rfl ?_)))
 refine uZ (enc:=aJ.enc) (W:=9) (e:=175) (a:=a) (c:=c) (l:=l) (a2:=a2) (c2:=c2) (l2:=[n]) d (by simp;omega) fun f g h d=>?_
 refine aB (aA (bL (b:=p) (o:=0) d rfl rfl rfl rfl fun h d=>q _ ?_))
 have d:Hs G h (aG p 0 [I C.depth,.slice f (l++[n]).length g]::vS f g (l++[n])::M):=(d.sg (b:=p) (o:=0) (c:=[I C.depth,.slice f (l++[n]).length g]) rfl).to
 exact qK d
theorem F3 {p:Nat} {l:List aJ} {w:Int} (hb:l.length<=1000) (g:Hs G h L) [m:Has (pV C p) L l L']
  (h0:l=[]->∀u,Hs G u (pV C p l::L')->Q (.tuple ⟨[.agg ⟨aJ.zero.enc⟩,I 12]⟩) u)
  (U:l≠[]->∀u,Hs G u (pV C p (l.eraseIdx (w % (l.length:Int)).toNat)::L')->Q (.tuple ⟨[.agg ⟨(l.getD (w % (l.length:Int)).toNat aJ.zero).enc⟩,I 0]⟩) u):Cl Pr K 199 [pt p 0 0,I w] h Q:=by
 obtain⟨a,c,g⟩:=Fb (m.of g)
 refine cW (bP (cs:=aJ.zero.enc) g fun j h g=>dG (bZ (bW (aB (aA (aC (b:=p) (o:=0) g rfl (cC (bJ (aX (fun H=>?_) (fun H=>?_))))))))))
 .have E:l=[]:=List.eq_nil_of_length_eq_zero (by omega);refine aQ (c:=aJ.zero.enc) rfl (bH (b:=j) g rfl rfl rfl rfl fun h g=>aU (b:=j) (o:=0) g (by decide) (l:=aJ.zero.enc) rfl rfl (h0 E _ (qK (a:=a) (c:=c) g.to)))
 have E:l≠[]:=fun e=>by rw[e] at H;simp at H
 have V:0<l.length:=List.length_pos_iff.2 E
 refine bW (aB (aA (aC (b:=p) (o:=0) g rfl (cC (aEs (by omega) ?_)))))
 obtain⟨k,r,α⟩:∃k:Nat,(k:Int)=w % (l.length:Int)/\k<l.length:=by
  have B:=Int.emod_nonneg w (b:=(l.length:Int)) (by omega);have S:=Int.emod_lt_of_pos w (b:=(l.length:Int)) (by omega);exact⟨(w % (l.length:Int)).toNat,by omega,by omega⟩
 rw[<-r,Int.toNat_natCast] at U
 have v:∀(M:List HP) (h:AH) (q:Nat),[Sub M L']->Hs G h (aG q 0 aJ.zero.enc::aG j 0 aJ.zero.enc::aG p 0 [I C.depth,.slice a l.length c]::vS a c l::M)->Dd 199 5 [] Q [(pt p 0 0),(pt j 0 0),(I k),(pt q 0 0),(.slice none 0 0),(.slice a l.length c),(I l.length),(I 0)] h:=by
  intro M h q _ g;have loop:∀(f i:Nat) (b:Option Addr) (d:Nat) (x:aJ) (h:AH),i+f=l.length->x=(if i<=k then aJ.zero else l.getD k aJ.zero)->
    Hs G h (vS b d ((l.take i).eraseIdx k)::aG q 0 x.enc::aG j 0 aJ.zero.enc::aG p 0 [I C.depth,.slice a l.length c]::vS a c l::M)->
    Dd 199 5 [] Q [(pt p 0 0),(pt j 0 0),(I k),(pt q 0 0),(.slice b ((l.take i).eraseIdx k).length d),(.slice a l.length c),(I l.length),(I i)] h:=by
   intro f
   induction f with
   |zero=>
    intro i b d x h hi F g
    have N:i=l.length:=by omega
    rw[aLa (by omega)] at F
    subst N
    rw[List.take_length] at g ⊢
    refine bW (aZ (aT (by omega) (bW (aB (aA (bL (b:=p) (o:=0) g rfl rfl rfl rfl fun h g=>aU (b:=q) (o:=0) g (by decide) (l:=x.enc) rfl rfl (bH (b:=j) g rfl rfl rfl rfl fun h g=>aU (b:=j) (o:=0) g (by decide) (l:=x.enc) rfl rfl ?_)))))))
    rw[F]
    refine U E h ?_
    have g:Hs G h (aG p 0 [I C.depth,.slice b (l.eraseIdx k).length d]::vS b d (l.eraseIdx k)::M):=(g.sg (b:=p) (o:=0) (c:=[I C.depth,.slice b (l.eraseIdx k).length d]) rfl).to
    exact(qK g).to
   |succ f X=>
    intro i b d x h hi F g
    obtain⟨y,O,hd⟩:=oD (l:=l) (i:=i) (by omega)
    have A:l.take (i+1)=l.take i++[y]:=by rw[List.take_add_one,O];rfl
    have hle:((l.take i).eraseIdx k).length<=l.length:=by
     have:=List.length_eraseIdx_le (l.take i) k;rw[List.length_take] at this;omega
    refine bW (aZ (bV (by omega) (bW (wN (l:=l) (a:=a) (c:=c) (enc:=aJ.enc) (e:=175) g.tail (by decide) (by omega) (by rw[Int.toNat_natCast];exact O) (bP g fun P h g=>bH (b:=P) g rfl rfl rfl rfl fun h g=>bJ (aX (fun T=>?_) (fun T=>?_)))))))
    .have J:i=k:=by omega
     refine bW (aU (b:=P) (o:=0) g (by decide) (l:=y.enc) rfl rfl (bH (b:=q) g rfl rfl rfl rfl fun h g=>bQ (by omega) ?_))
     have z:(l.take i).length=i:=by rw[List.length_take];omega
     have B:(l.take (i+1)).eraseIdx k=(l.take i).eraseIdx k:=by
      have S:(l.take i).eraseIdx k=l.take i:=List.eraseIdx_of_length_le (by omega);rw[A,List.eraseIdx_append_of_length_le (by omega),z,show k - i=0 by omega,S];simp
     have:=X (i+1) b d y h (by omega) (by rw[aLa (by omega),<-J,List.getD_eq_getElem?_getD,O];rfl)
     rw[B] at this
     exact this g.to
    .refine bW (aU (b:=P) (o:=0) g (by decide) (l:=y.enc) rfl rfl (aQ (c:=y.enc) rfl (dW (W:=9) (n:=1) (c:=1) g rfl rfl rfl fun R h g=>?_)));refine uZ (enc:=aJ.enc) (W:=9) (e:=175) (a:=b) (c:=d) (l:=(l.take i).eraseIdx k) (a2:=some R) (c2:=1) (l2:=[y]) (yB g) (by simp;omega) fun Y Z h g=>bQ (by omega) ?_;have B:(l.take (i+1)).eraseIdx k=(l.take i).eraseIdx k++[y]:=by
      rw[A];by_cases z:k<i;rw[List.eraseIdx_append_of_lt_length (by rw[List.length_take];omega)];rw[List.eraseIdx_of_length_le (by simp;omega),List.eraseIdx_of_length_le (by rw[List.length_take];omega)]
     have:=X (i+1) Y Z x h (by omega) (by rw[F];by_cases e:i<=k;rw[aLb e,aLb (by omega)];rw[aLa e,aLa (by omega)])
     rw[B] at this
     exact this g.to
  have:=loop l.length 0 none 0 aJ.zero h (by omega) (by simp) (by simpa using uA (enc:=aJ.enc) (W:=9) (e:=175) g);simpa using this
 by_cases t:w.tmod (l.length:Int)<0
 .refine aZ (bV t (bW (aB (aA (aC (b:=p) (o:=0) g rfl (cC ?_))))));have e:w.tmod (l.length:Int)+(l.length:Int)=(k:Int):=by
   rw[r];rw[Int.tmod_eq_emod] at t ⊢;split at t;have:=Int.emod_nonneg w (b:=(l.length:Int)) (by omega);omega;rename_i D;rw[aLa D];simp
  refine bQ (by omega) ?_
  rw[e]
  exact bP (cs:=aJ.zero.enc) g fun q h g=>aB (aA (aC (b:=p) (o:=0) g rfl (cC (v L' h q g.to))))
 .refine aZ (aT t (bW ?_));have e:w.tmod (l.length:Int)=(k:Int):=by
   rw[r];rw[Int.tmod_eq_emod] at t ⊢;split at t;rename_i D;rw[aLb D];simp;rename_i D;exfalso;have T:=Int.emod_lt_of_pos w (b:=(l.length:Int)) (by omega);have h3:=Int.emod_nonneg w (b:=(l.length:Int)) (by omega);simp at t;omega
  rw[e]
  exact bP (cs:=aJ.zero.enc) g fun q h g=>aB (aA (aC (b:=p) (o:=0) g rfl (cC (v L' h q g.to))))
theorem Xg {p:Nat} {l:List aJ} (hb:l.length<=1000) (d:Hs G h L) [m:Has (pV C p) L l L'] (j:∀q g,Hs G g (pV C q l::pV C p l::L')->Q (pt q 0 0) g):Cl Pr K 141 [pt p 0 0] h Q:=by
 obtain⟨a,c,d⟩:=Fb (m.of d);refine cW (dG (bZ (bB d fun r h d=>aB (aA (aC (b:=p) (o:=0) d rfl (aB (aA (aC (b:=p) (o:=0) d rfl (Fp (a:=a) (c:=c) (l:=l) (by omega) d fun e f h d=>?_)))))))));refine aQ (c:=[I C.depth,.slice e l.length f]) rfl (Am (i:=10) (r:=r) d rfl rfl fun q h d=>cY dJ (cY (aB dJ) (cY (aA dJ) (cY (aC (b:=p) (o:=0) d rfl jH) (j _ _ ?_)))));have d:Hs G h (aG p 0 [I C.depth,.slice a l.length c]::vS a c l::aG q 0 [I C.depth,.slice e l.length f]::vS e f l::L'):=d.to;have d:=qK d;exact(qK (show Hs G h (aG q 0 [I C.depth,.slice e l.length f]::vS e f l::pV C p l::L') from d.to)).to
end
end Go.Proofs.YtajjljbmfdboaaaGreatDoor
namespace Go.Proofs.YtajjljbmfdboaaaGreatDoor
open Go Go.Ab Go.Hm Go.At Go.Mc Go.Nt
section
theorem aHe {k:Nat} (h:1<=k/\k<14):∃a,Dx k=1::a:=by
 rcases k14 h.2 with rfl|rfl|rfl|rfl|rfl|rfl|rfl|rfl|rfl|rfl|rfl|rfl|rfl|rfl;omega;all_goals exact⟨_,rfl⟩
theorem w5 {C:bM} {n:aJ} (h:pR C n=0):Od n.kind/\0<=n.core/\n.core<C.aE:=by
 unfold pR at h;split at h;rename_i b;split at h;split at h;rename_i c;refine⟨b,?_⟩;unfold Od at b;obtain⟨f,d⟩:=aHe (k:=n.kind.toNat) (by omega);rw[d] at c;have a:=c.1;unfold oO at a;split at a;rename_i e;exact e;cases a;cases h;cases h;cases h
theorem sw {k:Nat} (h:k<14):0<=Pa k/\Pa k<4:=by
 rcases k14 h with rfl|rfl|rfl|rfl|rfl|rfl|rfl|rfl|rfl|rfl|rfl|rfl|rfl|rfl<;>decide
theorem A9 {n:aJ} (h:Od n.kind):gC n<4/\Pa n.kind.toNat=(gC n:Int):=by
 unfold Od at h;have:=sw (k:=n.kind.toNat) (by omega);unfold gC;omega
theorem Lg {_α:Type} {n j:Nat} {g:Nat->Value} {v:Value} (c:j<n):dR ((List.range n).map g) j [v]=(List.range n).map fun k=>if k=j then v else g k:=by
 rw[<-oE _ _ _ (by simp;omega)];apply List.ext_getElem?;intro i;unfold bX;simp only[List.length_singleton];by_cases h:i<j;rw[List.append_assoc,List.getElem?_append_left (by simp;omega),List.getElem?_take_of_lt h,List.getElem?_map,List.getElem?_map];by_cases a:i<n;rw[List.getElem?_range a];simp;intro e;omega;omega;rw[List.append_assoc,List.getElem?_append_right (by simp;omega)];have d:min j n=j:=by omega
 simp only[List.length_take,List.length_map,List.length_range,d];by_cases b:i=j;subst b;rw[List.getElem?_append_left (by simp),Nat.sub_self,List.getElem?_map,List.getElem?_range c];simp;rw[List.getElem?_append_right (by rw[List.length_singleton];omega),List.getElem?_drop,List.length_singleton,show j+1+(i - j - 1)=i by omega,List.getElem?_map,List.getElem?_map];by_cases a:i<n;rw[List.getElem?_range a];simp[b];rw[List.getElem?_eq_none (by simp;omega)];rfl
set_option maxRecDepth 100000
variable {G:Bg} {h:AH} {L L' M:List HP} {Q:Value->AH->Prop} {C:bM}
def nB (C:bM) (pl:Nat->Nat):List Value:=C.enc++(List.range 16).map fun k=>if k<4*C.aE.toNat then pt (pl k) 0 0 else .pointer none
theorem aB2 {pl:Nat->Nat} {k:Nat} (a:k<16):(nB C pl)[7+k]?=some (if k<4*C.aE.toNat then pt (pl k) 0 0 else .pointer none):=by
 unfold nB;rw[List.getElem?_append_right (by simp[bM.enc])];simp[bM.enc,List.getElem?_range a]
abbrev oK (C:bM) (pl:Nat->Nat) (F:gO) (k:Nat):HP:=pV C (pl k) (F (k/4) (k % 4))
def vQ (C:bM) (f:Nat) (F:gO):HP:=vW fun pl:Nat->Nat=>sp [aG f 0 (nB C pl),dK (4*C.aE.toNat) (oK C pl F)]
theorem Ng {f:Nat} {F:gO} (a:Hs G h (vQ C f F::L)):∃pl,Hs G h (aG f 0 (nB C pl)::dK (4*C.aE.toNat) (oK C pl F)::L):=by
 obtain⟨pl,a⟩:=a.Et;exact⟨pl,a.Hh⟩
theorem qT {f:Nat} {F:gO} {pl:Nat->Nat} (a:Hs G h (aG f 0 (nB C pl)::dK (4*C.aE.toNat) (oK C pl F)::L)):Hs G h (vQ C f F::L):=
 Hs.Af (A:=fun pl:Nat->Nat=>sp [aG f 0 (nB C pl),dK (4*C.aE.toNat) (oK C pl F)]) pl a.H9
def jt (C:bM) (pl:Nat->Nat) (F:gO) (k:Nat):HP:=sp (((List.range (4*C.aE.toNat)).erase k).map (oK C pl F))
theorem Je {F:gO} {pl:Nat->Nat} {k:Nat} (a:k<4*C.aE.toNat) (b:Hs G h (dK (4*C.aE.toNat) (oK C pl F)::L)):Hs G h (pV C (pl k) (F (k/4) (k % 4))::jt C pl F k::L):=b.mW k a
theorem we {F:gO} {k j:Nat} {l:List aJ}:(F.set (k/4) (k % 4) l) (j/4) (j % 4)=if j=k then l else F (j/4) (j % 4):=by
 unfold gO.set;by_cases e:j=k;subst e;simp;rw[aLa e,aLa (by omega)]
theorem Q3 {F:gO} {pl:Nat->Nat} {k:Nat} {l:List aJ} (b:k<4*C.aE.toNat) (c:Hs G h (pV C (pl k) l::jt C pl F k::L)):Hs G h (dK (4*C.aE.toNat) (oK C pl (F.set (k/4) (k % 4) l))::L):=by
 refine Hs.aCe (i:=k) (f:=oK C pl F) (g:=oK C pl (F.set (k/4) (k % 4) l)) b (fun j a=>?_) ?_;unfold oK;rw[we,aLa a];have e:oK C pl (F.set (k/4) (k % 4) l) k=pV C (pl k) l:=by unfold oK;rw[we,aLb rfl]
 rw[e];exact c
theorem Ep {f:Nat} {pl:Nat->Nat} {x y:Int} (hC:C.Ok) (c:Hs G h L) [m:Has (aG f 0) L (nB C pl) L'] (a:Q (if(0<=x/\x<C.aE)/\(0<=y/\y<4) then pt (pl (x.toNat*4+y.toNat)) 0 0 else .pointer none) h):Cl Pr K 115 [pt f 0 0,I x,I y] h Q:=by
 have k:=hC.1;refine cW (dG (bZ (aZ (aX (fun d=>?_) (fun d=>aB (aA (aA (aC (b:=f) (o:=0) c rfl (dO (aX (fun e=>?_) (fun e=>aZ (aX (fun g=>?_) (fun g=>dO (aX (fun j=>?_) (fun j=>?_)))))))))))))));rw[aLa (by omega)] at a;exact a;rw[aLa (by omega)] at a;exact a;rw[aLa (by omega)] at a;exact a;rw[aLa (by omega)] at a;exact a;rw[aLb (by omega)] at a;refine aB (aA (fU (by omega) (by omega) (fU (by omega) (by omega) (aC (b:=f) (o:=0) c (v:=pt (pl (x.toNat*4+y.toNat)) 0 0) ?_ a))));rw[show 0+7+x.toNat*4+y.toNat*1=7+(x.toNat*4+y.toNat) by omega,aB2 (by omega),aLb (by omega)]
theorem qx {f:Nat} {F:gO} {pl:Nat->Nat} {x:Nat} {y:Nat} (hC:C.Ok) (n:∀c w,(F c w).length<=1000) (r:(x:Int)<C.aE) (t:y<4) (a:Hs G h (aG f 0 (nB C pl)::dK (4*C.aE.toNat) (oK C pl F)::L)) (o:∀j,Hs G j (aG f 0 (nB C pl)::dK (4*C.aE.toNat) (oK C pl F)::L)->Q (I (C.depth - (F x y).length)) j):Cl Pr K 215 [pt f 0 0,I x,I y] h Q:=by
 have q:=hC.1;have d:1<=C.depth/\C.depth<=16:=hC.2.2.2.2.1;refine cW (Ep (C:=C) (pl:=pl) hC a ?_);rw[aLb (by omega)];have b:x*4+y<4*C.aE.toNat:=by omega
 have a:=Je b a.mK;rw[show((x:Int)).toNat*4+((y:Int)).toNat=x*4+y by omega];refine da (C:=C) (l:=F ((x*4+y)/4) ((x*4+y) % 4)) d (n _ _) a fun h a=>?_;have g:(x*4+y)/4=x/\(x*4+y) % 4=y:=by omega
 have:=o h;rw[g.1,g.2];refine this ?_;have a:=Q3 b a;have k:F.set ((x*4+y)/4) ((x*4+y) % 4) (F ((x*4+y)/4) ((x*4+y) % 4))=F:=by
  funext c w;unfold gO.set;split;rename_i e;rw[e.1,e.2];rfl
 rw[k] at a;exact a.mK
def xM (F a:gO):List Value:=(List.range 16).map fun k=>I (((a (k/4) (k % 4)).length:Int) - (F (k/4) (k % 4)).length)
theorem u7 {F a:gO} {x y:Nat} (c:x<4) (d:y<4):(xM F a)[x*4+y]?=some (I (((a x y).length:Int) - (F x y).length)):=by
 unfold xM;rw[List.getElem?_map,List.getElem?_range (by omega)];have b:(x*4+y)/4=x/\(x*4+y) % 4=y:=by omega
 simp[b.1,b.2]
theorem yi {F a:gO} {n:aJ} {x y:Nat} (d:n.core.toNat=x) (g:gC n=y) (f:x<4) (j:y<4):dR (xM F a) (x*4+y) [I (((a x y).length:Int) - (F x y).length+1)]=xM F (a.put n):=by
 unfold xM;rw[Lg (_α:=Nat) (by omega)];refine List.map_congr_left fun k c=>?_;have c:=List.mem_range.1 c;unfold gO.put;rw[d,g];by_cases e:k=x*4+y;subst e;have b:(x*4+y)/4=x/\(x*4+y) % 4=y:=by omega
 rw[aLb rfl,b.1,b.2];unfold gO.set;rw[aLb ⟨rfl,rfl⟩,List.length_append];congr 1;simp;omega;rw[aLa e];unfold gO.set;rw[aLa (by omega)]
end
section
set_option maxRecDepth 100000
variable {G:Bg} {h:AH} {L L' M:List HP} {Q:Value->AH->Prop} {C:bM}
theorem ib {d:Int} {F:gO} {n:aJ} {l:List aJ}:gO.zT d F (n::l)=if((F n.core.toNat (gC n)).length:Int)<d then gO.zT d (F.put n) l else none:=rfl
theorem o8 {n:aJ} {l:List aJ}:cG C (n::l)=if pR C n≠0 then pR C n else cG C l:=rfl
theorem U6 {l:List aJ} (h:cG C l=0):∀n∈l,pR C n=0:=by
 induction l with
 |nil=>intro n a;cases a
 |cons x l c=>
  unfold cG at h;split at h;rename_i b;exact absurd h b;rename_i b;intro n a;rcases List.mem_cons.1 a with rfl|a;omega;exact c h n a
theorem xg {f:Nat} {F:gO} {n:aJ} {a2:Option Addr} {c2:Nat} (hC:C.Ok) (k:pR C n=0) (o:((F n.core.toNat (gC n)).length:Int)<C.depth) {pl:Nat->Nat} {Q:Value->AH->Prop}
  (a:Hs G h (vS a2 c2 [n]::aG f 0 (nB C pl)::dK (4*C.aE.toNat) (oK C pl F)::L)) (g:∀e,Hs G e (aG f 0 (nB C pl)::dK (4*C.aE.toNat) (oK C pl (F.put n))::L)->Q (I 0) e):
  Cl Pr K 216 [pt (pl (n.core.toNat*4+gC n)) 0 0,.slice a2 1 c2] h Q:=by
 obtain⟨d,j⟩:=w5 k
 have r:=(A9 d).1
 have q:=hC.1
 have b:n.core.toNat*4+gC n<4*C.aE.toNat:=by omega
 have c:(n.core.toNat*4+gC n)/4=n.core.toNat/\(n.core.toNat*4+gC n) % 4=gC n:=by omega
 have a:=Je b (a.front (dK (4*C.aE.toNat) (oK C pl F)))
 rw[c.1,c.2] at a
 refine aBp (C:=C) (l:=F n.core.toNat (gC n)) (n:=n) hC.2.2.2.2.1 o a fun h a=>?_
 have a:Hs G h (pV C (pl (n.core.toNat*4+gC n)) (F n.core.toNat (gC n)++[n])::jt C pl F (n.core.toNat*4+gC n)::aG f 0 (nB C pl)::L):=a.to
 have a:=Q3 b a
 rw[c.1,c.2] at a
 exact g _ a.mK
theorem Ge {f:Nat} {F:gO} {l:List aJ} {a:Option Addr} {c:Nat} (hC:C.Ok) (hd:∀c w,(F c w).length<=500) (hl:l.length<=100) (T:Ob G 2 yI) (ε:Ob G 0 fV) (d:Hs G h L) [m:Has (vQ C f) L F L'] [m2:dX (vS a c l) L' M]
  (S:∀h',Hs G h' (vQ C f (gO.send C F l).1::vS a c l::M)->Q (I (gO.send C F l).2) h'):Cl Pr K 157 [pt f 0 0,.slice a l.length c] h Q:=by
 have hc:=hC.1
 have ι:1<=C.depth/\C.depth<=16:=hC.2.2.2.2.1
 obtain⟨pl,d⟩:=Ng (m.of d)
 have d:Hs G h (vS a c l::aG f 0 (nB C pl)::dK (4*C.aE.toNat) (oK C pl F)::M):=d.perm (((m2.perm.cons _).cons _).trans (((List.Perm.swap _ _ _).cons _).trans (List.Perm.swap _ _ _)))
 unfold gO.send at S
 have P:∀{h:AH} {L2:List HP} {J:gO},[Sub L2 M]->Hs G h (vS a c l::aG f 0 (nB C pl)::dK (4*C.aE.toNat) (oK C pl J)::L2)->Hs G h (vQ C f J::vS a c l::M):=by
  intro h L2 J _ d;have d:=d.cX (aG f 0 (nB C pl)) (dK (4*C.aE.toNat) (oK C pl J));exact(qT d).to
 have α:∀(k i:Nat) (j Fe:gO) (L2:List HP) (h:AH),[Sub L2 M]->i+k=l.length->cG C l=0->gO.zT C.depth F l=some Fe->gO.zT C.depth j (l.drop i)=some Fe->Hs G h (vS a c l::aG f 0 (nB C pl)::dK (4*C.aE.toNat) (oK C pl j)::L2)->
   Dd 157 10 [] Q [(pt f 0 0),(.slice a l.length c),(I l.length),(I i)] h:=by
  intro k
  induction k with
  |zero=>
   intro i j Fe L2 h _ hi q g O d
   rw[List.drop_of_length_le (by omega)] at O
   cases O
   rw[aLa (by omega),g] at S
   exact bW (aZ (aT (by omega) (S _ (P d))))
  |succ k ih=>
   intro i j Fe L2 h _ hi q g O d
   obtain⟨x,W,v⟩:=oD (l:=l) (i:=i) (by omega)
   have E:=U6 q x (List.mem_of_getElem? W)
   obtain⟨z,δ⟩:=w5 E
   obtain⟨t,U⟩:=A9 z
   rw[v] at O
   unfold gO.zT at O
   split at O
   .rename_i V;refine bW (aZ (bV (by omega) (bW (wN (l:=l) (a:=a) (c:=c) (enc:=aJ.enc) (e:=175) d (by decide) (by omega) (by rw[Int.toNat_natCast];exact W) (bP d fun u h d=>bH (b:=u) d rfl rfl rfl rfl fun h d=>aA (aC (b:=u) (o:=0) d rfl (N.bz T d ?_)))))));rw[aLb z,U];refine aH rfl (aH rfl (bC (aT (by omega) (bW (bB d fun r1 h0 B=>aA (aC (b:=u) (o:=0) B rfl (Ep (C:=C) (pl:=pl) hC B ?_)))))));rw[aLb (by omega)];refine aU (b:=u) (o:=0) B (by decide) (l:=x.enc) rfl rfl (aQ (c:=x.enc) rfl (jZ (r:=r1) (i:=6) (N:=9) (D:=[]) B rfl rfl rfl rfl rfl fun a2 h d=>?_));have d:=yB d;have d:Hs G h (vS (some a2) 1 [x]::aG f 0 (nB C pl)::dK (4*C.aE.toNat) (oK C pl j)::vS a c l::L2):=d.to;rw[show(x.core.toNat*4+((gC x:Nat):Int).toNat)=x.core.toNat*4+gC x by omega];refine xg (f:=f) hC E V d fun h d=>cY (aU (b:=u) (o:=0) B (by decide) (l:=x.enc) rfl rfl (qV ?_)) (bC (aT (by omega) (bW (bQ (by omega) (ih (i+1) (j.put x) Fe L2 h (by omega) q g O d.to)))));simp[aJ.enc,oI]
   .cases O
 have Z:∀(k i p:Nat) (j:gO) (L2:List HP) (h:AH),[Sub L2 M]->i+k=l.length->cG C l=0->gO.zT C.depth F l=gO.zT C.depth j (l.drop i)->(∀c w,(j c w).length<=500+i)->Hs G h (aG p 0 (xM F j)::vS a c l::aG f 0 (nB C pl)::dK (4*C.aE.toNat) (oK C pl F)::L2)->
   Dd 157 6 [] Q [(pt f 0 0),(.slice a l.length c),(pt p 0 0),(.slice a l.length c),(I l.length),(I i)] h:=by
  intro k
  induction k with
  |zero=>
   intro i p j L2 h _ hi q g A d
   rw[List.drop_of_length_le (by omega)] at g
   refine bW (aZ (aT (by omega) (bW (cC ?_))))
   exact α l.length 0 F j L2 h (by omega) q g (by rw[List.drop_zero];exact g) d.tail
  |succ k ih=>
   intro i p j L2 h _ hi q g A d
   obtain⟨x,W,v⟩:=oD (l:=l) (i:=i) (by omega)
   have E:=U6 q x (List.mem_of_getElem? W)
   obtain⟨z,δ⟩:=w5 E
   obtain⟨t,U⟩:=A9 z
   obtain⟨y,hy⟩:∃y:Nat,x.core=(y:Int):=⟨x.core.toNat,by omega⟩
   have X:x.core.toNat=y:=by omega
   rw[v,ib,X] at g
   have η:=A y (gC x)
   have θ:=hd y (gC x)
   refine bW (aZ (bV (by omega) (bW (wN (l:=l) (a:=a) (c:=c) (enc:=aJ.enc) (e:=175) d (by decide) (by omega) (by rw[Int.toNat_natCast];exact W) (bP d fun u h d=>bH (b:=u) d rfl rfl rfl rfl fun h d=>aA (aC (b:=u) (o:=0) d rfl (N.bz T d ?_)))))))
   rw[aLb z,U]
   have H:x.enc[0+1]?=some (I (y:Int)):=by rw[<-hy];rfl
   have R:∀{J:gO},(xM F J)[0+y*4+gC x*1]?=some (I (((J y (gC x)).length:Int) - (F y (gC x)).length)):=by
    intro J;rw[show 0+y*4+gC x*1=y*4+gC x by omega];exact u7 (by omega) t
   have γ:dR (xM F j) (0+y*4+gC x*1) [I (((j y (gC x)).length:Int) - (F y (gC x)).length+1)]=xM F (j.put x):=by
    rw[show 0+y*4+gC x*1=y*4+gC x by omega];exact yi X rfl (by omega) t
   have β:(xM F j).length=16:=by simp[xM]
   refine aH rfl (aH rfl (bC (aT (by omega) (bW (bB d fun r1 h d=>aA (aC (b:=u) (o:=0) d H (gR (by omega) (gR t (aC (b:=p) (o:=0) d R (bQ (by omega) (gR (by omega) (gR t ?_))))))))))))
   refine bL (b:=p) (o:=0) d rfl (by rw[β];exact Nat.ble_eq_true_of_le (by omega)) rfl (by rw[β];rfl) fun h d=>?_
   rw[γ] at d
   refine bB d fun r2 h d=>aA (aC (b:=u) (o:=0) d H (gR (by omega) (gR t (aC (b:=p) (o:=0) d R (aA (aC (b:=u) (o:=0) d H ?_))))))
   have ζ:((j.put x) y (gC x)).length=(j y (gC x)).length+1:=by unfold gO.put gO.set;rw[X,aLb ⟨rfl,rfl⟩,List.length_append];rfl
   have d:=d.cX (aG f 0 (nB C pl)) (dK (4*C.aE.toNat) (oK C pl F))
   refine qx (C:=C) (F:=F) (x:=y) (y:=gC x) hC (fun c w=>by have:=hd c w;omega) (by omega) t d fun h d=>mS ?_
   refine cY (aA dJ) (cY (aC (b:=u) (o:=0) d H jH) (cY jH (cY (gR (by omega) dJ) (cY (gR t dJ) (cY (aC (b:=p) (o:=0) d R jH) ?_)))))
   rw[ζ]
   refine aX (fun h1=>?_) (fun h1=>?_)
   .rw[aLa (by omega)] at g;rw[aLa (by omega),g] at S;refine S _ ?_;have d:=d.cX (aG f 0 (nB C pl)) (dK (4*C.aE.toNat) (oK C pl F));exact(qT d).to
   .rw[aLb (by omega)] at g;refine bW (bQ (by omega) (ih (i+1) p (j.put x) L2 h (by omega) q g (fun c w=>?_) d.to));have h2:((j.put x) c w).length<=(j c w).length+1:=by
     unfold gO.put gO.set;split;rename_i e;rw[e.1,e.2];simp;omega
    have:=A c w
    omega
 have Y:∀(k i:Nat) (h:AH),i+k=l.length->cG C l=cG C (l.drop i)->Hs G h (vS a c l::aG f 0 (nB C pl)::dK (4*C.aE.toNat) (oK C pl F)::M)->
   Dd 157 2 [] Q [(pt f 0 0),(.slice a l.length c),(.slice a l.length c),(I l.length),(I i)] h:=by
  intro k
  induction k with
  |zero=>
   intro i h hi g d
   rw[List.drop_of_length_le (by omega)] at g
   refine bW (aZ (aT (by omega) (bW (bP d fun p h d=>cC ?_))))
   refine Z l.length 0 p F M h (by omega) g (by rw[List.drop_zero]) (fun c w=>by have:=hd c w;omega) ?_
   have e:xM F F=[I 0,I 0,I 0,I 0,I 0,I 0,I 0,I 0,I 0,I 0,I 0,I 0,I 0,I 0,I 0,I 0]:=by
    unfold xM;simp only[Int.sub_self];rfl
   rw[e];exact d
  |succ k ih=>
   intro i h hi g d
   obtain⟨x,W,v⟩:=oD (l:=l) (i:=i) (by omega)
   rw[v,o8] at g
   refine bW (aZ (bV (by omega) (bW (wN (l:=l) (a:=a) (c:=c) (enc:=aJ.enc) (e:=175) d (by decide) (by omega) (by rw[Int.toNat_natCast];exact W) (bP d fun u h d=>bH (b:=u) d rfl rfl rfl rfl fun h d=>bB d fun r1 h d=>aB (aA (aU (b:=f) (o:=0) d (by decide) (l:=C.enc) rfl rfl (aU (b:=u) (o:=0) d (by decide) (l:=x.enc) rfl rfl ?_))))))))
   refine N.aEb (C:=C) (n:=x) T ε d fun h d=>bC (aX (fun h1=>?_) (fun h1=>?_))
   .rw[aLb h1] at g;rw[aLb (by rw[g];exact h1),g] at S;exact S _ (P (L2:=aG u 0 x.enc::M) d.to)
   .rw[aLa h1] at g;exact bW (bQ (by omega) (ih (i+1) h (by omega) g d.to))
 refine cW (dG (bZ (bW (cC ?_))))
 exact Y l.length 0 h (by omega) (by rw[List.drop_zero]) d
end
end Go.Proofs.YtajjljbmfdboaaaGreatDoor
end
namespace Go.Proofs.YtajjljbmfdboaaaGreatDoor
open Go Go.Ab Go.Hm Go.At Go.Mc Go.Nt
section
theorem Qs {k:Value->Prop} (a:k (.bool true)):bE (Tj .eql (.pointer none) (.pointer none)) k:=⟨_,rfl,a⟩
set_option maxRecDepth 100000
attribute [local irreducible] bE Br rT vO vB Dv nP xS mZ Ti iN nG pU sP rF lJ Cy xP Ya Xx Tj R3 Xc Td Rx Ub U1 mF pL vA kI copyV jQ zM Xp Yw Iz mA Pp Wr X7 pT tO Ao Cx Cl Bc Xb uL uF lI iQ cS cB
variable {G:Bg} {h:AH} {L L' M:List HP} {Q:Value->AH->Prop} {C:bM}
theorem Zr {f:Nat} {F:gO} {x y w:Int} (hC:C.Ok) (v:∀c w,(F c w).length<=500) (a:Hs G h L) [m:Has (vQ C f) L F L']
  (d:∀g,Hs G g (vQ C f (gO.take C F x y w).1::L')->Q (.tuple ⟨[.agg ⟨(gO.take C F x y w).2.1.enc⟩,I (gO.take C F x y w).2.2]⟩) g):Cl Pr K 155 [pt f 0 0,I x,I y,I w] h Q:=by
 have A:=hC.1
 obtain⟨pl,a⟩:=Ng (m.of a)
 unfold gO.take at d
 refine cW (bP (cs:=aJ.zero.enc) a fun p h a=>dG (bZ (bW (Ep (C:=C) (pl:=pl) hC a ?_))))
 by_cases q:(0<=x/\x<C.aE)/\(0<=y/\y<4)
 .rw[aLa (by omega)] at d;rw[aLb q];refine dG (bZ ?_);have j:x.toNat*4+y.toNat<4*C.aE.toNat:=by omega
  have k:(x.toNat*4+y.toNat)/4=x.toNat/\(x.toNat*4+y.toNat) % 4=y.toNat:=by omega
  have a:=Je j (a.front (dK (4*C.aE.toNat) (oK C pl F)))
  rw[k.1,k.2] at a
  have fin:∀{h:AH} (l:List aJ) (n:aJ) (e:Int),Hs G h (pV C (pl (x.toNat*4+y.toNat)) l::jt C pl F (x.toNat*4+y.toNat)::aG p 0 aJ.zero.enc::aG f 0 (nB C pl)::L')->(∀g,Hs G g (vQ C f (F.set x.toNat y.toNat l)::L')->Q (.tuple ⟨[.agg ⟨n.enc⟩,I e]⟩) g)->
    bE (pU 0 (.tuple ⟨[.agg ⟨n.enc⟩,I e]⟩)) fun v3=>bE (pU 1 (.tuple ⟨[.agg ⟨n.enc⟩,I e]⟩)) fun v4=>bE (vB h 9 (pt p 0 0) v3) fun t=>bE (vO t 9 (pt p 0 0)) fun v6=>Q (.tuple ⟨[v6,v4]⟩) t:=by
   intro h l n e a z
   refine aH rfl (aH rfl (bH (b:=p) a rfl rfl rfl rfl fun h a=>aU (b:=p) (o:=0) a (by decide) (l:=n.enc) rfl rfl (z _ ?_)))
   have a:=Q3 j (a.cX (pV C (pl (x.toNat*4+y.toNat)) l) (jt C pl F (x.toNat*4+y.toNat)))
   rw[k.1,k.2] at a
   have a:=a.cX (aG f 0 (nB C pl)) (dK (4*C.aE.toNat) (oK C pl (F.set x.toNat y.toNat l)))
   exact(qT a).to
  dsimp only at d
  refine F3 (C:=C) (l:=F x.toNat y.toNat) (by have:=v x.toNat y.toNat;omega) a (fun r h a=>?_) (fun r h a=>?_)
  .rw[aLb r] at d;refine fin _ _ _ a fun h a=>d _ ?_;have u:F.set x.toNat y.toNat (F x.toNat y.toNat)=F:=by
    funext c w;unfold gO.set;split;rename_i e;rw[e.1,e.2];rfl
   rw[u] at a
   exact a
  .rw[aLa r] at d;exact fin _ _ _ a d
 .rw[aLb q] at d;rw[aLa q];refine Qs (fK (aQ (c:=aJ.zero.enc) rfl ?_));refine bH (b:=p) a rfl rfl rfl rfl fun h a=>?_;refine aU (b:=p) (o:=0) a (by decide) (l:=aJ.zero.enc) rfl rfl (d _ ?_);exact qT a.tail
def uP (C:bM) (pl:Nat->Nat) (n:Nat):List Value:=C.enc++(List.range 16).map fun k=>if k<n then pt (pl k) 0 0 else .pointer none
theorem Wj {pl:Nat->Nat} {n p:Nat} (d:n<16):dR (uP C pl n) (7+n) [pt p 0 0]=uP C (aR pl n p) (n+1):=by
 unfold uP;have e:∀(A B:List Value) (j:Nat) (v:List Value),j+v.length<=B.length->dR (A++B) (A.length+j) v=A++dR B j v:=by
  intro A;induction A with
  |nil=>intro B j v c;simp
  |cons x A f=>intro B j v c;rw[List.cons_append,List.length_cons,show A.length+1+j=(A.length+j)+1 by omega];show x::dR (A++B) (A.length+j) v=_;rw[f B j v c];rfl
 rw[show 7+n=C.enc.length+n by simp[bM.enc],e _ _ _ _ (by simp;omega),Lg (_α:=Nat) d];congr 1;refine List.map_congr_left fun k _=>?_;by_cases a:k=n;subst a;rw[aLb rfl,aLb (by omega),dC];rw[aLa a];by_cases b:k<n;rw[aLb b,aLb (by omega),cH a];rw[aLa b,aLa (by omega)]
theorem F7 {pl:Nat->Nat} {n:Nat}:(uP C pl n).length=23:=by unfold uP;simp[bM.enc]
theorem bt {n p:Nat} {pl:Nat->Nat} {F:gO} (a:Hs G h (pV C p (F (n/4) (n % 4))::dK n (oK C pl F)::L)):Hs G h (dK (n+1) (oK C (aR pl n p) F)::L):=by
 refine Hs.U4 ?_;have b:oK C (aR pl n p) F n=pV C p (F (n/4) (n % 4)):=by unfold oK;rw[dC]
 rw[b];have a:=a.mK;have a:=tF (g:=oK C (aR pl n p) F) (fun j c=>by unfold oK;rw[cH (by omega)]) a;exact a.mK
theorem oh (hC:C.Ok) (g:Ob G 0 fV) (a:Hs G h L) (t:∀f r,Hs G r (vQ C f (fun _ _=>[])::L)->Q (.tuple ⟨[pt f 0 0,I 0]⟩) r):Cl Pr K 88 [.agg ⟨C.enc⟩] h Q:=by
 have v:=hC.1;refine cW (dS a fun p h a=>aU (b:=p) (o:=0) a (by decide) (l:=C.enc) rfl rfl (nF g a fun h a=>?_));rw[aLb hC];refine bC (aT (by omega) (bW (aU (b:=p) (o:=0) a (by decide) (l:=C.enc) rfl rfl (aQ (c:=uP C (fun _=>0) 0) rfl (dS a fun f h a=>aA (aC (b:=p) (o:=0) a rfl ?_))))));have inner:∀(k w x:Nat) (pl:Nat->Nat) (h:AH),w+k=4->(x:Int)<C.aE->(∀(pl:Nat->Nat) (h:AH),Hs G h (aG f 0 (uP C pl (4*x+4))::aG p 0 C.enc::dK (4*x+4) (oK C pl fun _ _=>[])::L)->Dd 88 6 [] Q [(pt p 0 0),(pt f 0 0),(I C.aE),(I x)] h)->
   Hs G h (aG f 0 (uP C pl (4*x+w))::aG p 0 C.enc::dK (4*x+w) (oK C pl fun _ _=>[])::L)->Dd 88 4 [] Q [(pt p 0 0),(pt f 0 0),(I x),(I C.aE),(I x),(I w)] h:=by
  intro k
  induction k with
  |zero=>
   intro w x pl h u d j a
   have:w=4:=by omega
   subst this
   exact bW (aZ (aT (by omega) (j pl h a)))
  |succ k n=>
   intro w x pl h u d j a
   refine bW (aZ (bV (by omega) (bW (aA (aC (b:=p) (o:=0) a rfl (iw hC a fun q h a=>aH rfl (aH rfl (bC (aT (by omega) (bW (aB (aA (gR (by omega) (gR (by omega) ?_))))))))))))))
   refine bL (b:=f) (o:=0) a rfl (by rw[F7];exact Nat.ble_eq_true_of_le (by simp;omega)) rfl (by rw[F7];rfl) fun h a=>bQ (by omega) ?_
   rw[show 0+7+x*4+w*1=7+(4*x+w) by omega,Wj (by omega)] at a
   refine n (w+1) x (aR pl (4*x+w) q) h (by omega) d j ?_
   have a:=a.cX (pV C q []) (dK (4*x+w) (oK C pl fun _ _=>[]))
   have a:=bt (F:=fun _ _=>[]) a
   exact(show Hs G h (aG f 0 (uP C (aR pl (4*x+w) q) (4*x+(w+1)))::aG p 0 C.enc::dK (4*x+(w+1)) (oK C (aR pl (4*x+w) q) fun _ _=>[])::L) from a.to)
 have outer:∀(k x:Nat) (pl:Nat->Nat) (h:AH),x+k=C.aE.toNat->Hs G h (aG f 0 (uP C pl (4*x))::aG p 0 C.enc::dK (4*x) (oK C pl fun _ _=>[])::L)->Dd 88 2 [] Q [(pt p 0 0),(pt f 0 0),(I C.aE),(I x)] h:=by
  intro k;induction k with
  |zero=>
   intro x pl h d a;refine bW (aZ (aT (by omega) (t f h ?_)));have e:x=C.aE.toNat:=by omega
   subst e;have a:Hs G h (aG f 0 (nB C pl)::aG p 0 C.enc::dK (4*C.aE.toNat) (oK C pl fun _ _=>[])::L):=a;exact(qT (show Hs G h (aG f 0 (nB C pl)::dK (4*C.aE.toNat) (oK C pl fun _ _=>[])::L) from a.to))
  |succ k n=>
   intro x pl h d a;refine bW (aZ (bV (by omega) (bW ?_)));refine inner 4 0 x pl h (by omega) (by omega) (fun pl h a=>bW (bQ (by omega) (n (x+1) pl h (by omega) ?_))) a;exact(show Hs G h (aG f 0 (uP C pl (4*(x+1)))::aG p 0 C.enc::dK (4*(x+1)) (oK C pl fun _ _=>[])::L) from by rw[show 4*(x+1)=4*x+4 by omega];exact a)
 have a:=Hs.Wx (f:=oK C (fun _=>0) fun _ _=>[]) a;exact outer C.aE.toNat 0 (fun _=>0) h (by omega) (show Hs G h (aG f 0 (uP C (fun _=>0) 0)::aG p 0 C.enc::dK 0 (oK C (fun _=>0) fun _ _=>[])::L) from a.to)
end
section
theorem aG2 {n a i:Nat} {l m:List Value} {k:Value->Prop} (e:i<n) (c:i*a+a<=l.length) (d:(l.drop (i*a)).take a=m) (b:k (.agg ⟨m⟩)):bE (Wr n a (.agg ⟨l⟩) (I i)) k:=
 ⟨.agg ⟨m⟩,by unfold Wr;simp only;rw[aLb ⟨by omega,by omega,by simpa using c⟩];simp[d],b⟩
set_option maxRecDepth 100000
attribute [local irreducible] bE Br rT vO vB Dv nP xS mZ Ti iN nG pU sP rF lJ Cy xP Ya Xx Tj R3 Xc Td Rx Ub U1 mF pL vA kI copyV jQ zM Xp Yw Iz mA Pp Wr X7 pT tO Ao Cx Cl Bc Xb uL uF lI iQ cS cB
variable {G:Bg} {h:AH} {L L' M:List HP} {Q:Value->AH->Prop} {C:bM}
def lE (C:bM) (pl:Nat->Nat):List Value:=(List.range 16).map fun k=>if k<4*C.aE.toNat then pt (pl k) 0 0 else .pointer none
theorem D6 {pl:Nat->Nat}:(lE C pl).length=16:=by simp[lE]
theorem rh {pl:Nat->Nat} {x w:Nat} (b:x<4) (a:w<4):(((lE C pl).drop (x*4)).take 4)[w]?=some (if x*4+w<4*C.aE.toNat then pt (pl (x*4+w)) 0 0 else .pointer none):=by
 rw[List.getElem?_take_of_lt a,List.getElem?_drop];unfold lE;rw[List.getElem?_map,List.getElem?_range (by omega)];rfl
theorem j6 (a:Q (.pointer none) h):Cl Pr K 141 [.pointer none] h Q:=
 cW (Qs (fK a))
theorem oe {pl:Nat->Nat} {n j:Nat} (d:n<=j) (a:j<16):dR (uP C pl n) (7+j) [.pointer none]=uP C pl n:=by
 unfold uP;have e:∀(A B:List Value) (j:Nat) (v:List Value),j+v.length<=B.length->dR (A++B) (A.length+j) v=A++dR B j v:=by
  intro A;induction A with
  |nil=>intro B j v a;simp
  |cons x A c=>intro B j v a;rw[List.cons_append,List.length_cons,show A.length+1+j=(A.length+j)+1 by omega];show x::dR (A++B) (A.length+j) v=_;rw[c B j v a];rfl
 rw[show 7+j=C.enc.length+j by simp[bM.enc],e _ _ _ _ (by simp;omega),Lg (_α:=Nat) a];congr 1;refine List.map_congr_left fun k _=>?_;by_cases b:k=j;rw[aLb b,aLa (by omega)];rw[aLa b]
theorem Zk {f:Nat} {F:gO} (hC:C.Ok) (T:∀c w,(F c w).length<=500) (a:Hs G h L) [m:Has (vQ C f) L F L'] (V:∀g O,Hs G O (vQ C g F::vQ C f F::L')->Q (pt g 0 0) O):Cl Pr K 78 [pt f 0 0] h Q:=by
 have Z:=hC.1;obtain⟨pl,a⟩:=Ng (m.of a);refine cW (dG (bZ (bW (aB (aA (aU (b:=f) (o:=0) a (by decide) (l:=C.enc) rfl rfl (aQ (c:=uP C (fun _=>0) 0) rfl (dS a fun g h a=>aB (aA (aU (b:=f) (o:=0) a (by decide) (l:=lE C pl) ?_ D6 ?_))))))))));unfold nB lE;rw[show 0+7=C.enc.length by simp[bM.enc],List.drop_left,List.take_of_length_le (by simp)];let N:=4*C.aE.toNat;have inner:∀(k w x:Nat) (d:Nat->Nat) (n:List HP) (h:AH),[Sub n L']->w+k=4->x<4->(∀(d:Nat->Nat) (h:AH),Hs G h (aG g 0 (uP C d (min N (4*x+4)))::dK (min N (4*x+4)) (oK C d F)::aG f 0 (nB C pl)::dK N (oK C pl F)::n)->Dd 78 6 [] Q [(pt g 0 0),(.agg ⟨lE C pl⟩),(I x)] h)->
   Hs G h (aG g 0 (uP C d (min N (4*x+w)))::dK (min N (4*x+w)) (oK C d F)::aG f 0 (nB C pl)::dK N (oK C pl F)::n)->Dd 78 4 [] Q [(pt g 0 0),(I x),(.agg ⟨lE C pl⟩),(I x),(.agg ⟨((lE C pl).drop (x*4)).take 4⟩),(I w)] h:=by
  intro k
  induction k with
  |zero=>
   intro w x d n h _ W y D a
   have:w=4:=by omega
   subst this
   exact bW (aZ (aT (by omega) (D d h a)))
  |succ k H=>
   intro w x d n h _ W y D a
   refine bW (aZ (bV (by omega) (bW (bp (by omega) (rh y (by omega)) (bB a fun r h a=>?_)))))
   have fin:∀(v:Value) (u:Nat->Nat) (h:AH),eJ v=true->Cv v [v]->dR (uP C d (min N (4*x+w))) (7+(4*x+w)) [v]=uP C u (min N (4*x+(w+1)))->
     Hs G h (aG g 0 (uP C d (min N (4*x+w)))::dK (min N (4*x+(w+1))) (oK C u F)::aG f 0 (nB C pl)::dK N (oK C pl F)::n)->
     bE (nG (pt g 0 0)) fun v4=>bE (iN 7 v4) fun v5=>bE (pL 4 4 v5 (I x)) fun v6=>bE (pL 4 1 v6 (I w)) fun X=>bE (vB h 1 X v) fun R=>(oI (pt g 0 0) (pt g 0 0)=true)/\((oI (I x) (I x)=true)/\((oI (I w) (I w)=true)/\((bE (nG (pt g 0 0)) fun v9=>oI v9 v4=true)/\((bE (iN 7 v4) fun v10=>oI v10 v5=true)/\((bE (pL 4 4 v5 (I x)) fun v11=>oI v11 v6=true)/\(bE (xP .add (I w) (I 1)) fun J=>Dd 78 4 [] Q [(pt g 0 0),(I x),(.agg ⟨lE C pl⟩),(I x),(.agg ⟨((lE C pl).drop (x*4)).take 4⟩),J] R)))))):=by
    intro v u h E S U a
    refine aB (aA (gR y (gR (by omega) ?_)))
    refine bL (b:=g) (o:=0) a rfl (by rw[F7];exact Nat.ble_eq_true_of_le (by simp;omega)) (by simp[E]) (by rw[F7];rfl) fun h a=>?_
    rw[show 0+7+x*4+w*1=7+(4*x+w) by omega,U] at a
    refine cY dJ (cY jH (cY jH (cY (aB dJ) (cY (aA dJ) (cY (gR y dJ) (bQ (by omega) ?_))))))
    exact H (w+1) x u n h (by omega) y D a
   by_cases A:x*4+w<4*C.aE.toNat
   .rw[aLb A];have Y:dK N (oK C pl F)=dK (4*C.aE.toNat) (oK C pl F):=rfl;have a:=Je A (a.front (dK N (oK C pl F)));refine Xg (C:=C) (l:=F ((x*4+w)/4) ((x*4+w) % 4)) (by have:=T ((x*4+w)/4) ((x*4+w) % 4);omega) a fun q h a=>?_;have a:=Q3 A (a.cX (pV C (pl (x*4+w)) (F ((x*4+w)/4) ((x*4+w) % 4))) (jt C pl F (x*4+w)));have P:F.set ((x*4+w)/4) ((x*4+w) % 4) (F ((x*4+w)/4) ((x*4+w) % 4))=F:=by
     funext c w;unfold gO.set;split;rename_i e;rw[e.1,e.2];rfl
    rw[P] at a
    have j:min N (4*x+w)=4*x+w:=by show min (4*C.aE.toNat) _=_;omega
    have t:min N (4*x+(w+1))=4*x+w+1:=by show min (4*C.aE.toNat) _=_;omega
    rw[j] at a
    rw[show x*4+w=4*x+w by omega] at a
    have a:=a.cX (pV C q (F ((4*x+w)/4) ((4*x+w) % 4))) (dK (4*x+w) (oK C d F))
    have a:=bt a
    refine fin (pt q 0 0) (aR d (4*x+w) q) h rfl inferInstance ?_ ?_
    .rw[j,t,Wj (by omega)]
    .rw[j,t];exact a.to
   .rw[aLa A];have j:min N (4*x+w)=N:=by show min (4*C.aE.toNat) _=4*C.aE.toNat;omega
    have t:min N (4*x+(w+1))=N:=by show min (4*C.aE.toNat) _=4*C.aE.toNat;omega
    refine j6 (fin (.pointer none) d h rfl inferInstance ?_ ?_)
    .rw[j,t];exact oe (by show 4*C.aE.toNat<=_;omega) (by omega)
    .rw[j] at a;rw[j,t];exact a.to
 have outer:∀(k x:Nat) (d:Nat->Nat) (n:List HP) (h:AH),[Sub n L']->x+k=4->Hs G h (aG g 0 (uP C d (min N (4*x)))::dK (min N (4*x)) (oK C d F)::aG f 0 (nB C pl)::dK N (oK C pl F)::n)->Dd 78 2 [] Q [(pt g 0 0),(.agg ⟨lE C pl⟩),(I x)] h:=by
  intro k;induction k with
  |zero=>
   intro x d n h _ y a;refine bW (aZ (aT (by omega) (V g h ?_)));have j:min N (4*x)=N:=by show min (4*C.aE.toNat) _=4*C.aE.toNat;omega
   rw[j] at a;have a:Hs G h (aG g 0 (nB C d)::dK (4*C.aE.toNat) (oK C d F)::aG f 0 (nB C pl)::dK (4*C.aE.toNat) (oK C pl F)::n):=a;have a:=qT a;have a:=a.cX (aG f 0 (nB C pl)) (dK (4*C.aE.toNat) (oK C pl F));have a:=qT a;exact a.to
  |succ k H=>
   intro x d n h _ y a;refine bW (aZ (bV (by omega) (bW (aG2 (by omega) (by rw[D6];omega) rfl (bP a fun p h a=>?_)))));have z:(((lE C pl).drop (x*4)).take 4).length=4:=by rw[List.length_take,List.length_drop,D6];omega
   have B:(((lE C pl).drop (x*4)).take 4).all eJ=true:=by
    refine List.all_eq_true.2 fun v E=>?_;have:=List.mem_of_mem_drop (List.mem_of_mem_take E);unfold lE at this;obtain⟨k,_,rfl⟩:=List.mem_map.1 this;split<;>rfl
   refine bH (b:=p) a rfl rfl z B fun h a=>aU (b:=p) (o:=0) a (by decide) (l:=((lE C pl).drop (x*4)).take 4) (by rw[List.drop_zero];exact List.take_of_length_le (by omega)) z ?_;refine inner 4 0 x d (aG p 0 (((lE C pl).drop (x*4)).take 4)::n) h (by omega) (by omega) (fun d h a=>bW (bQ (by omega) (H (x+1) d (aG p 0 (((lE C pl).drop (x*4)).take 4)::n) h (by omega) (by rw[show 4*(x+1)=4*x+4 by omega];exact a)))) ?_;exact a.to
 have a:=Hs.Wx (f:=oK C (fun _=>0) F) a;refine outer 4 0 (fun _=>0) L' h (by omega) ?_;rw[show min N (4*0)=0 by omega];exact a.to
end
end Go.Proofs.YtajjljbmfdboaaaGreatDoor
section
open Go Go.Ab
attribute [local irreducible] bE Br rT vO vB Dv nP xS mZ Ti iN nG pU sP rF lJ Cy xP Ya Xx Tj R3 Xc Td Rx Ub U1 mF pL vA kI copyV jQ zM Xp Yw Iz mA Pp Wr X7 pT tO Ao Cx Cl Bc Xb uL uF lI iQ cS cB
namespace Go.Proofs.YtajjljbmfdboaaaGreatDoor
open Go Go.Ab Go.Hm Go.At Go.Is Go.Mc
section
instance:Fx Ins.enc 4:=⟨fun _=>rfl,fun _=>rfl⟩
set_option maxRecDepth 100000
variable {G:Bg} {h:AH} {L L' M:List HP} {Q:Value->AH->Prop} {s:aK} {i p:Nat}
abbrev Ue (a:Option Addr) (c:Nat) (l:List Ins):HP:=ls Ins.enc 4 86 a c l
def sZ (i:Nat) (s:aK) (a:Option Addr) (c:Nat):List Value:=s.core++[I i,.slice a s.prog.length c]
def jC (i:Nat) (p:Nat) (s:aK):HP:=vW fun x:Option Addr×Nat=>sp [aG p 0 (sZ i s x.1 x.2),Ue x.1 x.2 s.prog]
theorem rB (b:Hs G h (jC i p s::L)):∃a c,Hs G h (aG p 0 (sZ i s a c)::Ue a c s.prog::L):=by
 obtain⟨⟨a,c⟩,b⟩:=b.Et;exact⟨a,c,b.Hh⟩
theorem mQ (p i:Nat) (s:aK) {a:Option Addr} {c:Nat} {cs:List Value} {l:List Ins} {b L2:List HP} (f:Hs G h L) [m:Has (aG p 0) L cs b] [g:Has (Ue a c) b l L2] (d:cs=sZ i s a c) (e:l=s.prog):Hs G h (jC i p s::L2):=by
 subst d;subst e;exact Hs.Af (A:=fun x:Option Addr×Nat=>sp [aG p 0 (sZ i s x.1 x.2),Ue x.1 x.2 s.prog]) (a,c) (Hs.pack (A:=[_,_]) (f.perm (m.perm.trans (g.perm.cons _))))
theorem aDj {a:Option Addr} {c:Nat} {k:Int} (b:0<=k/\k<4):(sZ i s a c)[0+0+0+k.toNat*1]?=some (I (s.cJ k.toNat)):=by
 have:k=0\/k=1\/k=2\/k=3:=by omega
 rcases this with rfl|rfl|rfl|rfl<;>rfl
theorem aA6 {a:Option Addr} {c:Nat} {k v:Int} (b:0<=k/\k<4):dR (sZ i s a c) (0+0+0+k.toNat*1) [I v]=sZ i (s.cK k v) a c:=by
 have:k=0\/k=1\/k=2\/k=3:=by omega
 rcases this with rfl|rfl|rfl|rfl<;>rfl
theorem zZ {a:Option Addr} {c:Nat} {k:Int} {q:Value->Prop} (f:Hs G h L) [m:Has (aG p 0) L (sZ i s a c) L'] (d:0<=k/\k<4) (e:q (I (s.cJ k.toNat))):bE (nG (pt p 0 0)) fun v4=>bE (iN 0 v4) fun v5=>bE (iN 0 v5) fun v6=>bE (pL 4 1 v6 (I k)) fun g=>bE (rT h g) q:=
 aB (aA (aA (fU d.1 d.2 (aC (b:=p) (o:=0) f (aDj d) e))))
theorem Ej {a:Option Addr} {c:Nat} {k v:Int} {q:AH->Prop} (d:Hs G h L) [m:Has (aG p 0) L (sZ i s a c) L'] (e:0<=k/\k<4) (j:∀f,Hs G f (aG p 0 (sZ i (s.cK k v) a c)::L')->q f):bE (nG (pt p 0 0)) fun v4=>bE (iN 0 v4) fun v5=>bE (iN 0 v5) fun v6=>bE (pL 4 1 v6 (I k)) fun l=>bE (vB h 1 l (I v)) q:=by
 refine aB (aA (aA (fU e.1 e.2 ?_)));have g:(sZ i s a c).length=9:=rfl;refine bL (b:=p) (o:=0) d rfl (by rw[g];exact Nat.ble_eq_true_of_le (by simp;omega)) rfl rfl fun h d=>?_;rw[aA6 e] at d;exact j _ d
theorem dv {a:Option Addr} {c:Nat} {x:Int} {cs:List Value} (q:0<=x) (d:cs[8]?=some (.slice a s.prog.length c)) (g:Hs G h L) [m:Has (aG p 0) L cs L'] [r:Has (Ue a c) L' s.prog M] (f:∀n,Hs G n L->Q (.bool (De s.prog x)) n):Cl Pr K 100 [pt p 0 0,I x] h Q:=by
 have k:Hs G h (aG p 0 cs::Ue a c s.prog::M):=g.perm (m.perm.trans (r.perm.cons _));unfold De at f;refine cW (aZ (aT (by omega) (aB (aA (aC (b:=p) (o:=0) g d (cC (dO (aX (fun j=>?_) (fun j=>?_)))))))));rw[aLb j] at f;exact f _ g;rw[aLa j] at f;refine aB (aA (aC (b:=p) (o:=0) g d (qh (l:=s.prog) (a:=a) (c:=c) (enc:=Ins.enc) (e:=86) (x:=pW s.prog x) k q ?_ rfl (bJ ?_))));unfold pW;rw[List.getD_eq_getElem?_getD,List.getElem?_eq_getElem (by omega)];rfl;exact f _ g
theorem Jp {x:Int} (g:0<=x) (d:Hs G h L) [m:Has (jC i p) L s L'] (f:∀e,Hs G e (jC i p (s.iO x)::L')->Q (.tuple ⟨[]⟩) e):Cl Pr K 98 [pt p 0 0,I x] h Q:=by
 obtain⟨a,c,d⟩:=rB (m.of d);refine cW (aB (aA (aA (bL (b:=p) (o:=0) d rfl rfl rfl rfl fun h d=>?_))));refine dv (s:=s) (a:=a) (c:=c) g rfl d fun h d=>aB (aA (aA (bL (b:=p) (o:=0) d rfl rfl rfl rfl fun h d=>f _ ?_)));exact mQ p i (s.iO x) (a:=a) (c:=c) d rfl rfl
theorem Wz {x:Ins} {a:Option Addr} {c:Nat} (d:Hs G h L) [m:Has (aG p 0) L (sZ i s a c) L'] (f:∀e,Hs G e L->Q (.agg ⟨(aK.ev s i x 0 0 0).enc⟩) e):Cl Pr K 99 [pt p 0 0,.agg ⟨x.enc⟩] h Q:=by
 refine cW (dS d fun q h d=>bP d fun r h d=>bB d fun g h d=>?_);refine aB (aA (aC (b:=p) (o:=0) d rfl (aB (aA (aA (aC (b:=p) (o:=0) d rfl (aA (aC (b:=q) (o:=0) d rfl (aB (aA (aA (aC (b:=p) (o:=0) d rfl (aQ (c:=(aK.ev s i x 0 0 0).enc) rfl ?_)))))))))))));refine bH (b:=r) d rfl rfl rfl rfl fun h d=>aU (b:=r) (o:=0) d (by decide) (l:=(aK.ev s i x 0 0 0).enc) rfl rfl (f _ d.to)
def aDr:Ins:=⟨0,0,0,0⟩
theorem Jl (j:s.Ok) (d:Hs G h L) [m:Has (jC i p) L s L'] (g:∀k,Hs G k (jC i p s::L')->Q (if s.over then .tuple ⟨[.agg ⟨aDr.enc⟩,.bool false]⟩ else .tuple ⟨[.agg ⟨(pW s.prog s.at').enc⟩,.bool true]⟩) k):Cl Pr K 39 [pt p 0 0] h Q:=by
 obtain⟨a,c,d⟩:=rB (m.of d);refine cW (bP d fun q h d=>dG (bZ (aB (aA (aA (aC (b:=p) (o:=0) d rfl (dv (s:=s) (a:=a) (c:=c) j.1 rfl d fun h d=>?_)))))));rw[<-j.2.2.1];refine dH (fun f=>?_) (fun f=>?_);rw[f,aLb rfl] at g;refine aQ (c:=aDr.enc) rfl (bH (b:=q) d rfl rfl rfl rfl fun h d=>aU (b:=q) (o:=0) d (by decide) (l:=aDr.enc) rfl rfl (g _ ?_));exact(mQ p i s (a:=a) (c:=c) d rfl rfl).to;rw[f] at g;have r:=Qx (p:=s.prog) (a:=s.at') (by rw[<-j.2.2.1];exact f);have n:=j.1;refine bB d fun t h d=>aB (aA (aC (b:=p) (o:=0) d rfl (aB (aA (aA (aC (b:=p) (o:=0) d rfl ?_))))));refine wN (l:=s.prog) (a:=a) (c:=c) (enc:=Ins.enc) (e:=86) (x:=pW s.prog s.at') d (by decide) n ?_ ?_;unfold pW;rw[List.getD_eq_getElem?_getD,List.getElem?_eq_getElem (by omega)];rfl;refine bH (b:=q) d rfl rfl rfl rfl fun h d=>aU (b:=q) (o:=0) d (by decide) (l:=(pW s.prog s.at').enc) rfl rfl (g _ ?_);exact(mQ p i s (a:=a) (c:=c) d rfl rfl).to
theorem Ot {x:Int} (a:Q (.bool (zR x)) h):Cl Pr K 50 [I x] h Q:=by
 unfold zR at a;refine cW (bJ (aX (fun b=>?_) (fun b=>bJ (aX (fun c=>?_) (fun c=>bJ ?_)))));rw[decide_eq_true (by omega)] at a;exact a;rw[decide_eq_true (by omega)] at a;exact a;rw[show decide (x=3\/x=4\/x=5)=decide (x=5) from decide_eq_decide.2 (by omega)] at a;exact a
end
section
theorem B4 {s:aK} (a:s.Ok) (h:s.over=false):Fits (pW s.prog s.at') s.prog.length:=
 Vg (a.2.2.2.2 _ (Jy a.1 (Qx (by rw[<-a.2.2.1];exact h))))
set_option maxRecDepth 100000
variable {G:Bg} {h:AH} {L L' M:List HP} {Q:Value->AH->Prop} {s:aK} {i p:Nat}
theorem kU {v:Ev} {x:Int} {e f:Nat} {z:List Value} {b:Value} (r:z.length=7) (q:0<=x) (a:Hs G h (jC i p s::aG f 0 v.enc::aG e 0 z::L)) (n:∀k,Hs G k (jC i p (s.iO x)::L)->Q (.tuple ⟨[.agg ⟨v.enc⟩,b]⟩) k):
  Cl Pr K 98 [pt p 0 0,I x] h fun _ c=>bE (vO c 7 (pt f 0 0)) fun g=>bE (vB c 7 (pt e 0 0) g) fun d=>bE (vO d 7 (pt e 0 0)) fun j=>Q (.tuple ⟨[j,b]⟩) d:=by
 refine Jp (i:=i) (s:=s) q a fun h a=>aU (b:=f) (o:=0) a (by decide) (l:=v.enc) rfl rfl (bH (b:=e) a (by rw[r];rfl) rfl rfl rfl fun h a=>aU (b:=e) (o:=0) a (by decide) (l:=v.enc) rfl rfl (n _ a.to))
theorem Vj (B:s.Ok) (d:Hs G h L) [m:Has (jC i p) L s L']
  (f:∀H,Hs G H (jC i p (match aK.gX s i with|some r=>r.1|none=>s)::L')->Q (match aK.gX s i with|some r=> .tuple ⟨[.agg ⟨r.2.enc⟩,.bool true]⟩|none=> .tuple ⟨[.agg ⟨Hc.enc⟩,.bool false]⟩) H):Cl Pr K 37 [pt p 0 0] h Q:=by
 have d:=m.of d
 have N:=B.1
 unfold aK.gX aK.next? at f
 refine cW (bP (cs:=Hc.enc) d fun u h d=>Jl (i:=i) (s:=s) B d fun h d=>?_)
 cases hov:s.over with
 |true=>
  simp only[hov,if_true] at f ⊢
  refine aH rfl (aH rfl (bP d fun j h d=>bH (b:=j) d rfl rfl rfl rfl fun h d=>cE (fK (aQ (c:=Hc.enc) rfl ?_))))
  refine bH (b:=u) d rfl rfl rfl rfl fun h d=>aU (b:=u) (o:=0) d (by decide) (l:=Hc.enc) rfl rfl (f _ d.to)
 |false=>
  have q:=B4 B hov
  simp only[hov,Bool.false_eq_true,if_false] at f ⊢
  generalize O:pW s.prog s.at'=x at f q
  refine aH rfl (aH rfl (bP d fun j h d=>bH (b:=j) d rfl rfl rfl rfl fun h d=>cE (bZ ?_)))
  obtain⟨a,c,d⟩:=rB (d.front (jC i p s))
  refine bW (aU (b:=j) (o:=0) d (by decide) (l:=x.enc) rfl rfl (Wz (a:=a) (c:=c) (s:=s) d fun h d=>bP d fun g h d=>bH (b:=g) d rfl rfl rfl rfl fun h d=>?_))
  refine aB (aA (aA (aC (b:=p) (o:=0) d rfl (bQ (by have:=B.2.1;omega) (aA (aC (b:=j) (o:=0) d rfl ?_))))))
  have d:Hs G h (aG j 0 x.enc::aG g 0 (aK.ev s i x 0 0 0).enc::aG u 0 Hc.enc::aG p 0 (sZ i s a c)::Ue a c s.prog::L'):=d.to
  have e:∀{h:AH} {s':aK} {M:List HP} {v:Ev},s'.prog=s.prog->Hs G h (aG g 0 v.enc::aG u 0 Hc.enc::aG p 0 (sZ i s' a c)::Ue a c s.prog::L')->Hs G h (jC i p s'::aG g 0 v.enc::aG u 0 Hc.enc::L'):=by
   intro h s' M v D d;exact mQ p i s' (a:=a) (c:=c) d rfl D.symm
  refine bJ (aX (fun n=>?_) (fun n=>bW (bJ (aX (fun c2=>?_) (fun c2=>bW (bJ (aX (fun w=>?_) (fun w=>bW (bJ (aX (fun y=>?_) (fun y=>bW (bJ (aX (fun A=>?_) (fun A=>bW (bJ (aX (fun t=>?_) (fun t=>?_)))))))))))))))))
  .simp only[n,if_true] at f;have z:=q.r1 (by omega);refine bW (aA (aC (b:=j) (o:=0) d rfl (aA (bL (b:=g) (o:=0) d rfl rfl rfl rfl fun h d=>bB d fun I h d=>aA (aC (b:=j) (o:=0) d rfl (aA (aC (b:=g) (o:=0) d rfl (Ej (s:=s) (a:=a) (c:=c) d z fun h d=>?_))))))));have d:=d.sg (b:=g) (o:=0) (c:=(aK.ev s i x 0 x.b 0).enc) rfl;exact kU (s:=s.cK x.a x.b) (v:=aK.ev s i x 0 x.b 0) rfl (by omega) (e (M:=L) (s':=s.cK x.a x.b) rfl d.to) f
  .simp only[c2,if_true] at f;have z:=q.r1 (by omega);have E:=q.r2 (by omega);have F:=q.r3 (by omega);refine bW (bB d fun I h d=>aA (aC (b:=j) (o:=0) d rfl (zZ (s:=s) (i:=i) (a:=a) (c:=c) d E (aA (aC (b:=j) (o:=0) d rfl (zZ (s:=s) (i:=i) (a:=a) (c:=c) d F (aj (aA ?_))))))));refine bL (b:=g) (o:=0) d rfl rfl rfl rfl fun h d=>bB d fun J h d=>aA (aC (b:=j) (o:=0) d rfl (aA (aC (b:=g) (o:=0) d rfl (Ej (s:=s) (a:=a) (c:=c) d z fun h d=>?_))));have d:=d.sg (b:=g) (o:=0) (c:=(aK.ev s i x 0 (wr (s.cJ x.b.toNat+s.cJ x.c.toNat)) 0).enc) rfl;exact kU (s:=s.cK x.a (wr (s.cJ x.b.toNat+s.cJ x.c.toNat))) (v:=aK.ev s i x 0 (wr (s.cJ x.b.toNat+s.cJ x.c.toNat)) 0) rfl (by omega) (e (M:=L) (s':=s.cK x.a (wr (s.cJ x.b.toNat+s.cJ x.c.toNat))) rfl d.to) f
  .simp only[w,if_true] at f;exact bW (kU (s:=s) (v:=aK.ev s i x 0 0 0) rfl (by omega) (e (M:=L) (s':=s) rfl d.to) f)
  .simp only[y,if_true] at f;refine bW (aA (aC (b:=j) (o:=0) d rfl (aA (bL (b:=g) (o:=0) d rfl rfl rfl rfl fun h d=>aB (aA (aA (aC (b:=p) (o:=0) d rfl (bJ (aX (fun k=>?_) (fun k=>?_))))))))))
   .simp only[k,if_true] at f;refine bW (aA (aC (b:=j) (o:=0) d rfl (aB (aA (aA (bL (b:=p) (o:=0) d rfl rfl rfl rfl fun h d=>?_))))));have d:=(d.sg (b:=g) (o:=0) (c:=(aK.ev s i x 0 x.a 0).enc) rfl).sg (b:=p) (o:=0) (c:=sZ i (s.Y3 x.a) a c) rfl;exact kU (s:=s.Y3 x.a) (v:=aK.ev s i x 0 x.a 0) rfl (by omega) (e (M:=L) (s':=s.Y3 x.a) rfl d.to) f
   .simp only[aLa k] at f;refine bW (aA (bL (b:=g) (o:=0) d rfl rfl rfl rfl fun h d=>?_));have d:=d.sg (b:=g) (o:=0) (c:=(aK.ev s i x 0 x.a 18).enc) rfl;exact kU (s:=s) (v:=aK.ev s i x 0 x.a 18) rfl (by omega) (e (M:=L) (s':=s) rfl d.to) f
  .simp only[A,if_true] at f;have D:=q.p1 (by omega);refine bW (aA (aC (b:=j) (o:=0) d rfl (aA (bL (b:=g) (o:=0) d rfl rfl rfl rfl fun h d=>aA (aC (b:=j) (o:=0) d rfl ?_)))));have d:=d.sg (b:=g) (o:=0) (c:=(aK.ev s i x 0 x.a 0).enc) rfl;exact kU (s:=s) (v:=aK.ev s i x 0 x.a 0) rfl (by omega) (e (M:=L) (s':=s) rfl d.to) f
  .simp only[t,if_true] at f;have z:=q.r1 (by omega);have D:=q.p2 (by omega);refine bW (bB d fun I h d=>aA (aC (b:=j) (o:=0) d rfl (zZ (s:=s) (i:=i) (a:=a) (c:=c) d z (aA ?_))));refine bL (b:=g) (o:=0) d rfl rfl rfl rfl fun h d=>aA (aC (b:=g) (o:=0) d rfl (bJ (aX (fun k=>?_) (fun k=>?_))))
   .have k:s.cJ x.a.toNat=0:=k;simp only[aLb k] at f;have d:=d.sg (b:=g) (o:=0) (c:=(aK.ev s i x 0 (s.cJ x.a.toNat) 0).enc) rfl;refine bW (aA (aC (b:=j) (o:=0) d rfl ?_));exact kU (s:=s) (v:=aK.ev s i x 0 (s.cJ x.a.toNat) 0) rfl (by omega) (e (M:=L) (s':=s) rfl d.to) f
   .have k:¬s.cJ x.a.toNat=0:=k;simp only[aLa k] at f;have d:=d.sg (b:=g) (o:=0) (c:=(aK.ev s i x 0 (s.cJ x.a.toNat) 0).enc) rfl;exact bW (kU (s:=s) (v:=aK.ev s i x 0 (s.cJ x.a.toNat) 0) rfl (by omega) (e (M:=L) (s':=s) rfl d.to) f)
  .simp only[aLa n,aLa c2,aLa w,aLa y,aLa A,aLa t] at f;refine aQ (c:=Hc.enc) rfl (bH (b:=u) d rfl rfl rfl rfl fun h d=>aU (b:=u) (o:=0) d (by decide) (l:=Hc.enc) rfl rfl (f _ ?_));exact(mQ p i s (a:=a) (c:=c) d rfl rfl).to
end
section
def sD (a:Acc):List Value:=[I a.word,.bool a.write,.bool a.read,I a.value]
def Sx:Acc:=⟨0,false,false,0⟩
def Tv:Mc.Ask:=⟨0,0,0,0,0⟩
set_option maxRecDepth 100000
variable {G:Bg} {h:AH} {L L' M:List HP} {Q:Value->AH->Prop} {s:aK} {i p:Nat}
theorem Ha (z:s.Ok) (d:Hs G h L) [m:Has (jC i p) L s L']
  (f:∀q,Hs G q (jC i p s::L')->Q (match aK.hQ s with|some a=> .tuple ⟨[.agg ⟨sD a⟩,.bool true]⟩|none=> .tuple ⟨[.agg ⟨sD Sx⟩,.bool false]⟩) q):Cl Pr K 41 [pt p 0 0] h Q:=by
 have d:=m.of d
 unfold aK.hQ aK.next? at f
 refine cW (bP (cs:=sD Sx) d fun g h d=>Jl (i:=i) (s:=s) z d fun h d=>?_)
 cases hov:s.over with
 |true=>
  simp only[hov,if_true] at f ⊢
  refine aH rfl (aH rfl (bP d fun j h d=>bH (b:=j) d rfl rfl rfl rfl fun h d=>cE (fK (aQ (c:=sD Sx) rfl ?_))))
  refine bH (b:=g) d rfl rfl rfl rfl fun h d=>aU (b:=g) (o:=0) d (by decide) (l:=sD Sx) rfl rfl (f _ d.to)
 |false=>
  have t:=B4 z hov
  simp only[hov,Bool.false_eq_true,if_false] at f ⊢
  generalize H:pW s.prog s.at'=x at f t
  refine aH rfl (aH rfl (bP d fun j h d=>bH (b:=j) d rfl rfl rfl rfl fun h d=>cE (bZ (aA (aC (b:=j) (o:=0) d rfl (Ot (cE (eO (dH (fun k=>?_) (fun k=>?_))))))))))
  .have k:zR x.op=true:=k;have E:x.op=3\/x.op=4\/x.op=5:=of_decide_eq_true k;simp only[k,if_true] at f;have A:=t.r1 (by omega);have u:=t.r2 (by omega);obtain⟨a,c,d⟩:=rB (d.front (jC i p s));have d:Hs G h (aG j 0 x.enc::aG g 0 (sD Sx)::aG p 0 (sZ i s a c)::Ue a c s.prog::L'):=d.to;have fin:∀{h:AH} {M:List HP} (e:Nat) (v:Acc),[Sub M L']->Hs G h (aG e 0 (sD v)::aG g 0 (sD Sx)::aG p 0 (sZ i s a c)::Ue a c s.prog::M)->(∀q,Hs G q (jC i p s::L')->Q (.tuple ⟨[.agg ⟨sD v⟩,.bool true]⟩) q)->
     bE (vO h 4 (pt e 0 0)) fun v1=>bE (vB h 4 (pt g 0 0) v1) fun y=>bE (vO y 4 (pt g 0 0)) fun v3=>Q (.tuple ⟨[v3,.bool true]⟩) y:=by
    intro h M e v _ d F
    refine aU (b:=e) (o:=0) d (by decide) (l:=sD v) rfl rfl (bH (b:=g) d rfl rfl rfl rfl fun h d=>aU (b:=g) (o:=0) d (by decide) (l:=sD v) rfl rfl (F _ ?_))
    exact(mQ p i s (a:=a) (c:=c) d rfl rfl).to
   refine bW (bB d fun w h d=>aA (aC (b:=j) (o:=0) d rfl (zZ (s:=s) (i:=i) (a:=a) (c:=c) d u (aQ (c:=sD ⟨s.cJ x.b.toNat,false,false,0⟩) rfl ?_))))
   refine lN (r:=w) (i:=9) (n:=11) (D:=[]) (cs:=sD Sx) d rfl rfl fun e h d=>bH (b:=e) d rfl rfl rfl rfl fun h d=>aA (aC (b:=j) (o:=0) d rfl (bJ (aX (fun c3=>?_) (fun c3=>bW (bJ (aX (fun c5=>?_) (fun c5=>bW (bJ (aX (fun B=>?_) (fun B=>?_))))))))))
   .rw[decide_eq_false (by omega),decide_eq_true (show x.op≠4 by omega),aLb (show x.op=3 by omega)] at f;refine bW (aA (bL (b:=e) (o:=0) d rfl rfl rfl rfl fun h d=>?_));have d:=d.sg (b:=e) (o:=0) (c:=sD ⟨s.cJ x.b.toNat,false,true,0⟩) rfl;exact fin (M:=L') e ⟨s.cJ x.b.toNat,false,true,0⟩ d.to f
   .rw[decide_eq_true (show x.op≠3 by omega),decide_eq_true (show x.op≠4 by omega),aLa (show ¬x.op=3 by omega)] at f;refine bW (aA (bL (b:=e) (o:=0) d rfl rfl rfl rfl fun h d=>aA (bL (b:=e) (o:=0) d rfl rfl rfl rfl fun h d=>bB d fun w h d=>aA (aC (b:=j) (o:=0) d rfl (zZ (s:=s) (i:=i) (a:=a) (c:=c) d A (aA (bL (b:=e) (o:=0) d rfl rfl rfl rfl fun h d=>?_)))))));have d:=d.sg (b:=e) (o:=0) (c:=sD ⟨s.cJ x.b.toNat,true,true,s.cJ x.a.toNat⟩) rfl;exact fin (M:=L') e ⟨s.cJ x.b.toNat,true,true,s.cJ x.a.toNat⟩ d.to f
   .rw[decide_eq_true (show x.op≠3 by omega),decide_eq_false (by omega),aLa (show ¬x.op=3 by omega)] at f;refine bW (aA (bL (b:=e) (o:=0) d rfl rfl rfl rfl fun h d=>bB d fun w h d=>aA (aC (b:=j) (o:=0) d rfl (zZ (s:=s) (i:=i) (a:=a) (c:=c) d A (aA (bL (b:=e) (o:=0) d rfl rfl rfl rfl fun h d=>?_))))));have d:=d.sg (b:=e) (o:=0) (c:=sD ⟨s.cJ x.b.toNat,true,false,s.cJ x.a.toNat⟩) rfl;exact fin (M:=L') e ⟨s.cJ x.b.toNat,true,false,s.cJ x.a.toNat⟩ d.to f
   .omega
  .have k:zR x.op=false:=k;simp only[k,Bool.false_eq_true,if_false] at f;refine aQ (c:=sD Sx) rfl (bH (b:=g) d rfl rfl rfl rfl fun h d=>aU (b:=g) (o:=0) d (by decide) (l:=sD Sx) rfl rfl (f _ d.to))
theorem Ye (t:s.Ok) (d:Hs G h L) [m:Has (jC i p) L s L']
  (e:∀r,Hs G r (jC i p s::L')->Q (match aK.rV s i with|some a=> .tuple ⟨[.agg ⟨a.enc⟩,.bool true]⟩|none=> .tuple ⟨[.agg ⟨Tv.enc⟩,.bool false]⟩) r):Cl Pr K 42 [pt p 0 0] h Q:=by
 have d:=m.of d
 unfold aK.rV aK.next? at e
 refine cW (bP (cs:=Tv.enc) d fun j h d=>Jl (i:=i) (s:=s) t d fun h d=>?_)
 cases hov:s.over with
 |true=>
  simp only[hov,if_true] at e ⊢
  refine aH rfl (aH rfl (bP d fun g h d=>bH (b:=g) d rfl rfl rfl rfl fun h d=>cE (fK (aQ (c:=Tv.enc) rfl ?_))))
  refine bH (b:=j) d rfl rfl rfl rfl fun h d=>aU (b:=j) (o:=0) d (by decide) (l:=Tv.enc) rfl rfl (e _ d.to)
 |false=>
  have k:=B4 t hov
  simp only[hov,Bool.false_eq_true,if_false] at e ⊢
  generalize u:pW s.prog s.at'=x at e k
  refine aH rfl (aH rfl (bP d fun g h d=>bH (b:=g) d rfl rfl rfl rfl fun h d=>cE (bZ (aA (aC (b:=g) (o:=0) d rfl (bC (aX (fun f=>?_) (fun f=>?_))))))))
  .have f:¬x.op=8:=f;rw[aLa f] at e;refine aQ (c:=Tv.enc) rfl (bH (b:=j) d rfl rfl rfl rfl fun h d=>aU (b:=j) (o:=0) d (by decide) (l:=Tv.enc) rfl rfl (e _ d.to))
  .have f:x.op=8:=by have:¬x.op≠8:=f;omega
   rw[aLb f] at e
   have n:=k.r2 (by omega)
   have q:=k.r3 (by omega)
   obtain⟨a,c,d⟩:=rB (d.front (jC i p s))
   refine bB d fun v h d=>aB (aA (aC (b:=p) (o:=0) d rfl (aB (aA (aA (aC (b:=p) (o:=0) d rfl (aA (aC (b:=g) (o:=0) d rfl (aA (aC (b:=g) (o:=0) d rfl ?_))))))))))
   refine zZ (s:=s) (i:=i) (a:=a) (c:=c) d n (aA (aC (b:=g) (o:=0) d rfl (zZ (s:=s) (i:=i) (a:=a) (c:=c) d q ?_)))
   refine aQ (c:=(⟨i,s.world,x.a,s.cJ x.b.toNat,s.cJ x.c.toNat⟩:Mc.Ask).enc) rfl (bH (b:=j) d rfl rfl rfl rfl fun h d=>aU (b:=j) (o:=0) d (by decide) (l:=(⟨i,s.world,x.a,s.cJ x.b.toNat,s.cJ x.c.toNat⟩:Mc.Ask).enc) rfl rfl (e _ ?_))
   exact(mQ p i s (a:=a) (c:=c) d rfl rfl).to
theorem Yl {x:Ins} {e A:Nat} {code:Int} {a:Option Addr} {c:Nat} {k:AH->Nat->Prop} {y:Bool} (r:y=true) (H:0<=x.b/\x.b<4) (d:Hs G h (aG e 0 x.enc::aG A 0 Hc.enc::aG p 0 (sZ i s a c)::Ue a c s.prog::L))
  (F:∀q z,Hs G z (aG q 0 (aK.ev s i x (s.cJ x.b.toNat) 0 code).enc::aG e 0 x.enc::aG A 0 Hc.enc::aG p 0 (sZ i s a c)::Ue a c s.prog::L)->k z q):
  bE (vO h 4 (pt e 0 0)) fun v0=>Cl Pr K 99 [pt p 0 0,v0] h fun v1 B=>Dv B (.cells [(I 0),(I 0),(I 0),(I 0),(I 0),(I 0),(I 0)] 80 (0,0) true) fun f D=>bE (vB D 7 (pt f 0 0) v1) fun E=>Ti y E 13 fun _ n=>
   bE (iN 2 (pt e 0 0)) fun J=>bE (rT n J) fun N=>bE (nG (pt p 0 0)) fun v9=>bE (iN 0 v9) fun v10=>bE (iN 0 v10) fun v11=>bE (pL 4 1 v11 N) fun t=>bE (rT n t) fun u=>bE (iN 4 (pt f 0 0)) fun v=>bE (vB n 1 v u) fun g=>bE (iN 6 (pt f 0 0)) fun w=>bE (vB g 1 w (I code)) fun j=>
   (oI (I code) (I code)=true)/\k j f:=by
 refine aU (b:=e) (o:=0) d (by decide) (l:=x.enc) rfl rfl (Wz (a:=a) (c:=c) (s:=s) (i:=i) d fun h d=>bP d fun q h d=>bH (b:=q) d rfl rfl rfl rfl fun h d=>bB (hc:=r) d fun O h d=>aA (aC (b:=e) (o:=0) d rfl ?_))
 refine zZ (s:=s) (i:=i) (a:=a) (c:=c) d H (aA (bL (b:=q) (o:=0) d rfl rfl rfl rfl fun h d=>aA (bL (b:=q) (o:=0) d rfl rfl rfl rfl fun h d=>cY jH (F _ _ ?_))))
 have d:=d.sg (b:=q) (o:=0) (c:=(aK.ev s i x (s.cJ x.b.toNat) 0 code).enc) rfl
 exact d.to
theorem O2 {value code:Int} (J:s.Ok) (d:Hs G h L) [m:Has (jC i p) L s L']
  (g:∀H,Hs G H (jC i p (aK.bG s i value code).1::L')->Q (.tuple ⟨[.agg ⟨(aK.bG s i value code).2.1.enc⟩,I (aK.bG s i value code).2.2]⟩) H):Cl Pr K 38 [pt p 0 0,I value,I code] h Q:=by
 have d:=m.of d
 have Z:=J.1
 have V:=J.2.1
 unfold aK.bG aK.next? at g
 refine cW (bP (cs:=Hc.enc) d fun j h d=>dG (bZ (bW (Jl (i:=i) (s:=s) J d fun h d=>?_))))
 have bad:∀{h:AH} {M:List HP} (e:Int),[Sub M (jC i p s::L')]->Hs G h (aG j 0 Hc.enc::M)->(∀H,Hs G H (jC i p s::L')->Q (.tuple ⟨[.agg ⟨Hc.enc⟩,I e]⟩) H)->
   bE (oR [(I 0),(I 0),(I 0),(I 0),(I 0),(I 0),(I 0)] []) fun c5=>bE (vB h 7 (pt j 0 0) (.agg ⟨c5⟩)) fun S=>bE (vO S 7 (pt j 0 0)) fun Y=>Q (.tuple ⟨[Y,(I e)]⟩) S:=by
  intro h M e _ d X
  refine aQ (c:=Hc.enc) rfl (bH (b:=j) d rfl rfl rfl rfl fun h d=>aU (b:=j) (o:=0) d (by decide) (l:=Hc.enc) rfl rfl (X _ ?_))
  exact d.tail.to
 cases hov:s.over with
 |true=>
  simp only[hov,if_true] at g ⊢
  refine aH rfl (aH rfl (bP d fun f h d=>bH (b:=f) d rfl rfl rfl rfl fun h d=>cE (fK ?_)))
  exact bad (M:=jC i p s::L') 16 d.to g
 |false=>
  have E:=B4 J hov
  simp only[hov,Bool.false_eq_true,if_false] at g ⊢
  generalize hx:pW s.prog s.at'=x at g E
  refine aH rfl (aH rfl (bP d fun f h d=>bH (b:=f) d rfl rfl rfl rfl fun h d=>cE (bZ (aA (aC (b:=f) (o:=0) d rfl ?_)))))
  have tail:∀{h:AH} {a:Option Addr} {c q:Nat},(x.op=8\/zR x.op=true/\(code=0\/code=19))->Hs G h (aG q 0 (aK.ev s i x (s.cJ x.b.toNat) 0 code).enc::aG f 0 x.enc::aG j 0 Hc.enc::aG p 0 (sZ i s a c)::Ue a c s.prog::L')->
    bE (iN 0 (pt f 0 0)) fun r=>bE (rT h r) fun t=>bE (xP .eql t (I 8)) fun v20=>Br v20 (Dd 38 4 [] Q [(pt p 0 0),(I code),(pt j 0 0),(pt f 0 0),(pt q 0 0)] h) (Dd 38 5 [] Q [(pt p 0 0),(I value),(I code),(pt j 0 0),(pt f 0 0),(pt q 0 0)] h):=by
   intro h a c q T d
   have u:∀{h:AH} {s':aK} {v:Ev},s'.prog=s.prog->Hs G h (aG q 0 v.enc::aG j 0 Hc.enc::aG p 0 (sZ i s' a c)::Ue a c s.prog::L')->Hs G h (jC i p s'::aG q 0 v.enc::aG j 0 Hc.enc::L'):=by
    intro h s' v W d;exact mQ p i s' (a:=a) (c:=c) d rfl W.symm
   refine aA (aC (b:=f) (o:=0) d rfl (bJ (aX (fun n=>?_) (fun n=>bW ?_))))
   .have n:x.op=8:=n;simp only[n,if_true] at g;have y:=E.r2 (by omega);have O:=E.r3 (by omega);refine bW (bB d fun P h d=>aA (aC (b:=f) (o:=0) d rfl (zZ (s:=s) (i:=i) (a:=a) (c:=c) d O (aA (bL (b:=q) (o:=0) d rfl rfl rfl rfl fun h d=>bB d fun P h d=>aA (aC (b:=f) (o:=0) d rfl (Ej (s:=s) (a:=a) (c:=c) d y fun h d=>?_)))))));refine aB (aA (aA (aC (b:=p) (o:=0) d rfl (bQ (by show -9223372036854775808<=s.at'+1/\s.at'+1<=_;omega) ?_))));have d:=d.sg (b:=q) (o:=0) (c:=(aK.ev s i x (s.cJ x.b.toNat) (s.cJ x.c.toNat) code).enc) rfl;exact kU (s:=s.cK x.b code) (v:=aK.ev s i x (s.cJ x.b.toNat) (s.cJ x.c.toNat) code) (x:=s.at'+1) rfl (by omega) (u (s':=s.cK x.b code) rfl d.to) g
   .have n:¬x.op=8:=n;obtain⟨w,T⟩:zR x.op=true/\(code=0\/code=19):=by rcases T with h|h;exact absurd h n;exact h
    have N:x.op=3\/x.op=4\/x.op=5:=of_decide_eq_true w
    have U:=E.r1 (by omega)
    simp only[aLa n,w,if_true] at g
    rw[aLa (by omega)] at g
    refine bJ (aX (fun z=>?_) (fun z=>bW (aA (aC (b:=f) (o:=0) d rfl (bJ (aX (fun A=>?_) (fun A=>?_)))))))
    .simp only[z,if_true] at g;subst z;refine bW (aB (aA (aA (aC (b:=p) (o:=0) d rfl (bQ (by omega) ?_)))));exact kU (s:=s) (v:=aK.ev s i x (s.cJ x.b.toNat) 0 19) (x:=s.at'+1) rfl (by omega) (u (s':=s) rfl d.to) g
    .have A:x.op=4:=A;simp only[aLa z,A,if_true] at g;have B:code=0:=by omega
     subst B
     refine bW (bB d fun P h d=>aA (aC (b:=f) (o:=0) d rfl (zZ (s:=s) (i:=i) (a:=a) (c:=c) d U (aA (bL (b:=q) (o:=0) d rfl rfl rfl rfl fun h d=>aB (aA (aA (aC (b:=p) (o:=0) d rfl (bQ (by show -9223372036854775808<=s.at'+1/\s.at'+1<=_;omega) ?_)))))))))
     have d:=d.sg (b:=q) (o:=0) (c:=(aK.ev s i x (s.cJ x.b.toNat) (s.cJ x.a.toNat) 0).enc) rfl
     exact kU (s:=s) (v:=aK.ev s i x (s.cJ x.b.toNat) (s.cJ x.a.toNat) 0) (x:=s.at'+1) rfl (by omega) (u (s':=s) rfl d.to) g
    .have A:¬x.op=4:=A;simp only[aLa z,aLa A] at g;have B:code=0:=by omega
     subst B
     refine bW (aA (bL (b:=q) (o:=0) d rfl rfl rfl rfl fun h d=>bB d fun P h d=>aA (aC (b:=f) (o:=0) d rfl (Ej (s:=s) (a:=a) (c:=c) d U fun h d=>aB (aA (aA (aC (b:=p) (o:=0) d rfl (bQ (by show -9223372036854775808<=s.at'+1/\s.at'+1<=_;omega) ?_))))))))
     have d:=d.sg (b:=q) (o:=0) (c:=(aK.ev s i x (s.cJ x.b.toNat) value 0).enc) rfl
     exact kU (s:=s.cK x.a value) (v:=aK.ev s i x (s.cJ x.b.toNat) value 0) (x:=s.at'+1) rfl (by omega) (u (s':=s.cK x.a value) rfl d.to) g
  have D:∀{h:AH} {M:List HP},[Sub M L']->Hs G h (aG f 0 x.enc::aG j 0 Hc.enc::jC i p s::M)->∃a c,Hs G h (aG f 0 x.enc::aG j 0 Hc.enc::aG p 0 (sZ i s a c)::Ue a c s.prog::L'):=by
   intro h M _ d;obtain⟨a,c,d⟩:=rB (d.front (jC i p s));exact⟨a,c,d.to⟩
  have d:Hs G h (aG f 0 x.enc::aG j 0 Hc.enc::jC i p s::L'):=d.to
  refine bC (aX (fun n=>?_) (fun n=>?_))
  .have n:¬x.op=8:=n;refine aA (aC (b:=f) (o:=0) d rfl (Ot (cE (eO (dH (fun w=>?_) (fun w=>?_))))))
   .have w:zR x.op=true:=w;have N:x.op=3\/x.op=4\/x.op=5:=of_decide_eq_true w;have y:=E.r2 (by omega);refine bW (aA (aC (b:=f) (o:=0) d rfl (bC (bV n (bC (aX (fun R=>bC (aX (fun F=>?_) (fun F=>?_))) (fun R=>?_)))))))
    .simp only[aLa n,w,if_true] at g;rw[aLb ⟨R,F⟩] at g;exact bad (M:=jC i p s::L') 1 d.to g
    .obtain⟨a,c,d⟩:=D (M:=L') d;refine bW (Yl (k:=fun h q=>bE (iN 0 (pt f 0 0)) fun r=>bE (rT h r) fun t=>bE (xP .eql t (I 8)) fun v20=>Br v20 (Dd 38 4 [] Q [(pt p 0 0),(I code),(pt j 0 0),(pt f 0 0),(pt q 0 0)] h) (Dd 38 5 [] Q [(pt p 0 0),(I value),(I code),(pt j 0 0),(pt f 0 0),(pt q 0 0)] h)) (by kernel_rfl) y d fun q h d=>tail (.inr ⟨w,by omega⟩) d)
    .obtain⟨a,c,d⟩:=D (M:=L') d;exact Yl (k:=fun h q=>bE (iN 0 (pt f 0 0)) fun r=>bE (rT h r) fun t=>bE (xP .eql t (I 8)) fun v20=>Br v20 (Dd 38 4 [] Q [(pt p 0 0),(I code),(pt j 0 0),(pt f 0 0),(pt q 0 0)] h) (Dd 38 5 [] Q [(pt p 0 0),(I value),(I code),(pt j 0 0),(pt f 0 0),(pt q 0 0)] h)) (by kernel_rfl) y d fun q h d=>tail (.inr ⟨w,by omega⟩) d
   .have w:zR x.op=false:=w;simp only[aLa n,w,Bool.false_eq_true,if_false] at g;exact bad (M:=jC i p s::L') 16 d.to g
  .have n:x.op=8:=by have:¬x.op≠8:=n;omega
   have y:=E.r2 (by omega)
   refine aA (aC (b:=f) (o:=0) d rfl (bC (aT (by show ¬x.op≠8;omega) ?_)))
   obtain⟨a,c,d⟩:=D (M:=L') d
   exact Yl (k:=fun h q=>bE (iN 0 (pt f 0 0)) fun r=>bE (rT h r) fun t=>bE (xP .eql t (I 8)) fun v20=>Br v20 (Dd 38 4 [] Q [(pt p 0 0),(I code),(pt j 0 0),(pt f 0 0),(pt q 0 0)] h) (Dd 38 5 [] Q [(pt p 0 0),(I value),(I code),(pt j 0 0),(pt f 0 0),(pt q 0 0)] h)) (by kernel_rfl) y d fun q h d=>tail (.inl n) d
end
section
set_option maxRecDepth 100000
variable {G:Bg} {h:AH} {L L' M:List HP} {Q:Value->AH->Prop} {s:aK} {i p:Nat}
theorem cv {α:Type} {enc:α->List Value} {l:List α}:(l.map enc).flatten=eL enc l:=by simp[eL,List.flatMap]
theorem Se {v:Value} {e:TypeId} {l:List Ins} (hb:l.length<=1000) (b:Hs G h (zX G 4 e v (l.map Ins.enc)::L)) (f:∀a c d,Hs G d (Ue a c l::zX G 4 e v (l.map Ins.enc)::L)->Q (.slice a l.length c) d):Cl Pr K 95 [v] h Q:=by
 refine cW (Mg (bytes:=32) (e:=86) b (by decide) (List.length_map ..) (by rw[cv];exact Md) (by omega) fun a c h b=>f a c h ?_);rw[cv] at b;exact b
theorem P5 {v:Value} {w:Int} {e:TypeId} {pr:List Ins} (n:i<4) (q:0<=w/\w<=3) (j:Ob G 1 wR) (hc:(lF pr).2=0) (d:Hs G h (zX G 4 e v (pr.map Ins.enc)::L))
  (k:∀p f,Hs G f (jC i p (sN pr w)::zX G 4 e v (pr.map Ins.enc)::L)->Q (.tuple ⟨[pt p 0 0,I 0]⟩) f):Cl Pr K 36 [I i,I w,v] h Q:=by
 have g:pr.length<=32:=by
  unfold lF at hc;split at hc;cases hc;omega
 refine cW (aZ (aT (by omega) (dO (aT (by omega) (aZ (aT (by omega) (mS (aT (by omega) (bW (E8 j d fun h d=>aH rfl (aH rfl (bC (aT (by omega) (bW ?_))))))))))))))
 refine Se (l:=pr) (by omega) d fun a c h d=>?_
 refine aQ (c:=sZ i ⟨fun _=>0,0,0,false,pr⟩ a c) rfl (dS d fun p h d=>aB (aA (aA (bL (b:=p) (o:=0) d rfl rfl rfl rfl fun h d=>?_))))
 have d:Hs G h (aG p 0 (sZ i ⟨fun _=>0,0,w,false,pr⟩ a c)::Ue a c pr::zX G 4 e v (pr.map Ins.enc)::L):=d
 have d:=mQ p i ⟨fun _=>0,0,w,false,pr⟩ (a:=a) (c:=c) d rfl rfl
 exact Jp (i:=i) (s:=⟨fun _=>0,0,w,false,pr⟩) (by omega) d fun h d=>k _ _ d
end
end Go.Proofs.YtajjljbmfdboaaaGreatDoor
namespace Go.Proofs.YtajjljbmfdboaaaGreatDoor
open Go Go.Ab Go.Hm Go.At Go.Mc Go.Ct
section
instance:Fx Ev.enc 7 where
 len _:=rfl
 cel _:=rfl
structure MN where
 lc:List Nat
 lk:List Nat
 lq:List Nat
 ac:Option Addr
 ak:Option Addr
 aq:Option Addr
 al:Option Addr
 cc:Nat
 ck:Nat
 cq:Nat
 cl:Nat
 hb:Nat
 mb:Nat
 fb:Nat
def fL (Cf:bM) (x:MN) (n:Nat):List Value:=Cf.enc++[.slice x.ac x.lc.length x.cc,.slice x.ak x.lk.length x.ck,.slice x.aq x.lq.length x.cq,pt x.hb 0 0,pt x.mb 0 0,pt x.fb 0 0,.slice x.al n x.cl]
def j9 (Cf:bM) (x:MN):Prop:=x.lc.length=Cf.aE.toNat/\x.lk.length=Cf.aE.toNat/\x.lq.length=Cf.aE.toNat
abbrev jU:Nat->Nat->aK->HP:=fun i p s=>jC i p s
abbrev sC (G:Bg) (Cf:bM):Nat->Nat->gZ->HP:=fun i p s=>C.hM G p Cf i s
abbrev qP (Cf:bM):Nat->Nat->kO->HP:=fun _ p s=>kQ p Cf s
abbrev C3 (a:Option Addr) (c:Nat) (l:List Ev):HP:=ls Ev.enc 7 80 a c l
abbrev Mb (a:Option Addr) (c:Nat) (l:List Nat):HP:=ls pE 1 75 a c l
abbrev W7 (a:Option Addr) (c:Nat) (l:List Nat):HP:=ls pE 1 137 a c l
abbrev W9 (a:Option Addr) (c:Nat) (l:List Nat):HP:=ls pE 1 140 a c l
def P8 (G:Bg) (Cf:bM) (m:Nat) (M:cT) (x:MN):List HP:=[Cz (j9 Cf x),aG m 0 (fL Cf x M.log.length),Mb x.ac x.cc x.lc,W7 x.ak x.ck x.lk,W9 x.aq x.cq x.lq,
  oJ jU x.lc M.aD,oJ (sC G Cf) x.lk M.dD,oJ (qP Cf) x.lq M.cG,H.gP G x.hb Cf M.home,fY Cf x.mb M.bY,vQ Cf x.fb M.kL,C3 x.al x.cl M.log]
def wJ (G:Bg) (Cf:bM) (m:Nat) (x:MN) (M:cT):HP:=sp (P8 G Cf m M x)
def bT (G:Bg) (Cf:bM) (m:Nat) (M:cT):HP:=vW fun x:MN=>sp (P8 G Cf m M x)
set_option maxRecDepth 100000
variable {G:Bg} {h:AH} {L L':List HP} {Q:Value->AH->Prop} {Cf:bM} {m:Nat} {M:cT}
theorem cU (a:Hs G h (bT G Cf m M::L)):∃x,j9 Cf x/\Hs G h (aG m 0 (fL Cf x M.log.length)::Mb x.ac x.cc x.lc::W7 x.ak x.ck x.lk::W9 x.aq x.cq x.lq::
  oJ jU x.lc M.aD::oJ (sC G Cf) x.lk M.dD::oJ (qP Cf) x.lq M.cG::H.gP G x.hb Cf M.home::fY Cf x.mb M.bY::vQ Cf x.fb M.kL::C3 x.al x.cl M.log::L):=by
 obtain⟨x,a⟩:=a.Et
 obtain⟨b,a⟩:=Hs.y7 a.unpack
 exact⟨x,b,a⟩
theorem zB {x:MN} (a:j9 Cf x) (b:Hs G h (aG m 0 (fL Cf x M.log.length)::Mb x.ac x.cc x.lc::W7 x.ak x.ck x.lk::W9 x.aq x.cq x.lq::
  oJ jU x.lc M.aD::oJ (sC G Cf) x.lk M.dD::oJ (qP Cf) x.lq M.cG::H.gP G x.hb Cf M.home::fY Cf x.mb M.bY::vQ Cf x.fb M.kL::C3 x.al x.cl M.log::L)):Hs G h (bT G Cf m M::L):=
 Hs.Af (A:=fun x:MN=>sp (P8 G Cf m M x)) x (Hs.pack (A:=P8 G Cf m M x) (Hs.To a b))
theorem bK {x:MN} (M:cT) (q:j9 Cf x) {e L2 f g j k l n o a b:List HP} (r:Hs G h L) [t:dX (aG m 0 (fL Cf x M.log.length)) L e] [u:dX (Mb x.ac x.cc x.lc) e L2] [v:dX (W7 x.ak x.ck x.lk) L2 f] [w:dX (W9 x.aq x.cq x.lq) f g] [y:dX (oJ jU x.lc M.aD) g j] [z:dX (oJ (sC G Cf) x.lk M.dD) j k] [A:dX (oJ (qP Cf) x.lq M.cG) k l] [B:dX (H.gP G x.hb Cf M.home) l n] [D:dX (fY Cf x.mb M.bY) n o] [c:dX (vQ Cf x.fb M.kL) o a] [d:dX (C3 x.al x.cl M.log) a b]:Hs G h (bT G Cf m M::b):=
 zB (x:=x) q (r.perm (t.perm.trans ((u.perm.trans ((v.perm.trans ((w.perm.trans ((y.perm.trans ((z.perm.trans ((A.perm.trans ((B.perm.trans ((D.perm.trans ((c.perm.trans ((d.perm).cons _)).cons _)).cons _)).cons _)).cons _)).cons _)).cons _)).cons _)).cons _)).cons _)))
theorem Ed {x:MN} (M:cT) (q:j9 Cf x) {e L2 f g j k l n o a b:List HP} (r:Hs G h L) [t:dX (aG m 0 (fL Cf x M.log.length)) L e] [u:dX (Mb x.ac x.cc x.lc) e L2] [v:dX (W7 x.ak x.ck x.lk) L2 f] [w:dX (W9 x.aq x.cq x.lq) f g] [y:dX (oJ jU x.lc M.aD) g j] [z:dX (oJ (sC G Cf) x.lk M.dD) j k] [B:dX (oJ (qP Cf) x.lq M.cG) k l] [D:dX (H.gP G x.hb Cf M.home) l n] [E:dX (fY Cf x.mb M.bY) n o] [c:dX (vQ Cf x.fb M.kL) o a] [d:dX (C3 x.al x.cl M.log) a b]:Hs G h (wJ G Cf m x M::b):=
 Hs.pack (A:=P8 G Cf m M x) (Hs.To q (r.perm (t.perm.trans ((u.perm.trans ((v.perm.trans ((w.perm.trans ((y.perm.trans ((z.perm.trans ((B.perm.trans ((D.perm.trans ((E.perm.trans ((c.perm.trans ((d.perm).cons _)).cons _)).cons _)).cons _)).cons _)).cons _)).cons _)).cons _)).cons _)).cons _))))
theorem yK {x:MN} (a:Hs G h (wJ G Cf m x M::L)):j9 Cf x/\Hs G h (aG m 0 (fL Cf x M.log.length)::Mb x.ac x.cc x.lc::W7 x.ak x.ck x.lk::W9 x.aq x.cq x.lq::
  oJ jU x.lc M.aD::oJ (sC G Cf) x.lk M.dD::oJ (qP Cf) x.lq M.cG::H.gP G x.hb Cf M.home::fY Cf x.mb M.bY::vQ Cf x.fb M.kL::C3 x.al x.cl M.log::L):=Hs.y7 a.unpack
theorem aG7 (a:Hs G h (bT G Cf m M::L)):∃x,Hs G h (wJ G Cf m x M::L):=a.Et
theorem aE0 {x:MN} (a:Hs G h (wJ G Cf m x M::L)):Hs G h (bT G Cf m M::L):=Hs.Af (A:=fun x:MN=>sp (P8 G Cf m M x)) x a
theorem J1 {a:Option Addr} {c i:Nat} {l:List Nat} {k:Value->Prop} (f:Hs G h L) [g:Has (Mb a c) L l L'] (b:i<l.length) (d:k (pt (l.getD i 0) 0 0)):bE (mF 1 (.slice a l.length c) (I i)) fun p=>bE (rT h p) k:=
 xf (e:=75) (show Hs G h (Mb a c l::L') from g.of f) b d
theorem M9 {a:Option Addr} {c i:Nat} {l:List Nat} {k:Value->Prop} (f:Hs G h L) [g:Has (W7 a c) L l L'] (b:i<l.length) (d:k (pt (l.getD i 0) 0 0)):bE (mF 1 (.slice a l.length c) (I i)) fun p=>bE (rT h p) k:=
 xf (e:=137) (show Hs G h (W7 a c l::L') from g.of f) b d
theorem bq {a:Option Addr} {c i q:Nat} {l:List Nat} {k:AH->Prop} (g:Hs G h L) [j:Has (W7 a c) L l L'] (d:i<l.length) (f:∀b,Hs G b (W7 a c (l.set i q)::L')->k b):bE (mF 1 (.slice a l.length c) (I i)) fun p=>bE (vB h 1 p (pt q 0 0)) k:=
 xm (e:=137) (show Hs G h (W7 a c l::L') from j.of g) d f
theorem Kl {a:Option Addr} {c i:Nat} {l:List Nat} {k:Value->Prop} (f:Hs G h L) [g:Has (W9 a c) L l L'] (b:i<l.length) (d:k (pt (l.getD i 0) 0 0)):bE (mF 1 (.slice a l.length c) (I i)) fun p=>bE (rT h p) k:=
 xf (e:=140) (show Hs G h (W9 a c l::L') from g.of f) b d
theorem Rt {a:Option Addr} {c i q:Nat} {l:List Nat} {k:AH->Prop} (g:Hs G h L) [j:Has (W9 a c) L l L'] (d:i<l.length) (f:∀b,Hs G b (W9 a c (l.set i q)::L')->k b):bE (mF 1 (.slice a l.length c) (I i)) fun p=>bE (vB h 1 p (pt q 0 0)) k:=
 xm (e:=140) (show Hs G h (W9 a c l::L') from j.of g) d f
theorem xY {l:List Nat} {s:Nat->aK} {i:Nat} {t:aK} (a:i<l.length) (b:Hs G h L) [k:dX (jC i (l.getD i 0) t) L L'] {N:List HP} [c:dX (Dk jU l s i) L' N]:Hs G h (oJ jU l (aR s i t)::N):=Kq a (b.cX (jC i (l.getD i 0) t) (Dk jU l s i))
theorem Q4 {a:Option Addr} {c:Nat} {l:List Ev} {v:Ev} {a2:Option Addr} {c2:Nat} {k:Value×AH->Prop} {N:List HP} (hb:l.length<=2^30) (b:Hs G h L) [o:Has (C3 a c) L l L'] [n:dX (C3 a2 c2 [v]) L' N]
  (j:∀d e g,Hs G g (C3 d e (l++[v])::N)->k (.slice d (l++[v]).length e,g)):bE (kI 7 56 80 h (.slice a l.length c) (.slice a2 1 c2)) k:=by
 have b:=o.of b
 have f:Hs G h (C3 a c l::C3 a2 c2 [v]::N):=b.perm (n.perm.cons _)
 exact uZ (l:=l) (l2:=[v]) (a:=a) (c:=c) (a2:=a2) (c2:=c2) f (by simp;omega) fun d e h b=>j d e h b.mK.tail
end
section
set_option maxRecDepth 100000
variable {G:Bg} {h:AH} {L L':List HP} {Q:Value->AH->Prop} {Cf:bM} {m:Nat} {M:cT}
theorem nU {i:Nat} {v c:Int} (H:(i:Int)<Cf.aE) (B:(M.aD i).Ok) (k:M.log.length<=2^30) (d:Hs G h L) [E:Has (bT G Cf m) L M L'] (g:∀A,Hs G A (bT G Cf m (M.bG i v c).1::L')->Q (I (M.bG i v c).2) A):Cl Pr K 161 [pt m 0 0,I i,I v,I c] h Q:=by
 obtain⟨x,z,d⟩:=cU (E.of d);have f:i<x.lc.length:=by have:=z.1;omega
 unfold cT.bG at g;refine cW (aB (aA (aC (b:=m) (o:=0) d rfl (J1 d f ?_))));have d:=iJ (R:=jU) (l:=x.lc) (s:=M.aD) f d;refine O2 (i:=i) (p:=x.lc.getD i 0) (s:=M.aD i) B d fun h d=>?_;have d:=xY (l:=x.lc) (s:=M.aD) (i:=i) (t:=(aK.bG (M.aD i) i v c).1) f d;refine aH rfl (aH rfl (bP d fun q h d=>bH (b:=q) d rfl rfl rfl rfl fun h d=>bC (aX (fun n=>?_) (fun n=>?_))));rw[aLb n] at g;refine g _ ?_;have e:aR M.aD i (aK.bG (M.aD i) i v c).1=M.aD:=by
  have:(aK.bG (M.aD i) i v c).1=M.aD i:=by
   unfold aK.bG at n ⊢;cases hn:aK.next? (M.aD i) with
   |none=>rfl
   |some y=>grind
  rw[this];funext j;unfold aR;split;rename_i e;rw[e];rfl
 rw[e] at d;exact zB z d.to;rw[aLa n] at g;refine bW (bB d fun F h d=>aB (aA (aC (b:=m) (o:=0) d rfl (aU (b:=q) (o:=0) d (by decide) (l:=(aK.bG (M.aD i) i v c).2.1.enc) rfl rfl (aQ (c:=(aK.bG (M.aD i) i v c).2.1.enc) rfl ?_)))));refine jZ (r:=F) (i:=6) (N:=11) (D:=[]) (W:=7) d rfl rfl rfl rfl rfl fun a h d=>?_;have d:=yB (enc:=Ev.enc) (x:=(aK.bG (M.aD i) i v c).2.1) d;refine Q4 (l:=M.log) (v:=(aK.bG (M.aD i) i v c).2.1) k d fun u w h d=>aB (aA (bL (b:=m) (o:=0) d rfl rfl rfl rfl fun h d=>cY dJ (g _ ?_)));have e:dR (fL Cf x M.log.length) (0+13) [.slice u (M.log++[(aK.bG (M.aD i) i v c).2.1]).length w]=fL Cf {x with al:=u,cl:=w} (M.log++[(aK.bG (M.aD i) i v c).2.1]).length:=rfl;rw[e] at d;exact zB (M:=(M.nT i (aK.bG (M.aD i) i v c).1).Sp (aK.bG (M.aD i) i v c).2.1) (x:={x with al:=u,cl:=w}) z d.to
end
section
set_option maxRecDepth 100000
variable {G:Bg} {h:AH} {L L':List HP} {Q:Value->AH->Prop} {Cf:bM} {m:Nat} {x:MN} {M:cT}
abbrev wtX (G:Bg) (Cf:bM) (m:Nat) (x:MN) (M:cT) (p2 a c:Nat) (co:Int) (e:Nat->Value) (d l:Nat) (st:LoopState×Option Code) (b:Bool) (pr:Prop):HP:=
 sp [Cz pr,pP Pr 20 (pM 58) 32 e d l st,sp [aG p2 0 [pt m 0 0],aG a 0 [I co],aG c 0 [.bool b]],wJ G Cf m x M]
theorem j3 {co:Int} (hm:iF Cf M.bY) (f:Hs G h L) [mm:Has (wJ G Cf m x) L M L'] (z:∀V,Hs G V (wJ G Cf m x M::L')->Q (.bool (M.waits co)) V):Cl Pr K 20 [pt m 0 0,I co] h Q:=by
 unfold cT.waits at z;refine cW (dS (mm.of f) fun n h f=>dS f fun t h f=>bP f fun j h f=>aC (b:=n) (o:=0) f rfl (dG (bZ ?_)));obtain⟨S,f⟩:=yK (f.front (wJ G Cf m x M));refine bW (aC (b:=n) (o:=0) f rfl (aB (aA (aC (b:=m) (o:=0) f rfl (Du (C:=Cf) (m:=M.bY) f fun q qa qc h f=>?_)))));have f:=Ed (m:=m) (x:=x) M S f;refine oY f fun d h f=>?_;intro e he;refine tZ f fun l h f=>A8 rfl ?_;have f:Hs G h (H.Ny 3 q qa qc (M.bY.running.map fun k:Nat=>(k:Int))::wtX G Cf m x M n t j co e d l (.ready,none) false (∀g∈([]:List Int),M.bY.mI co g.toNat=false)::mk d ()::L'):=by
  have f:=(f.dF (aG n 0 [pt m 0 0]) (aG t 0 [I co]) (aG j 0 [.bool false])).W8;have f:=f.dF (pP Pr 20 (pM 58) 32 e d l (.ready,none)) (sp [aG n 0 [pt m 0 0],aG t 0 [I co],aG j 0 [.bool false]]) (wJ G Cf m x M);have f:=Hs.Nx (Hs.To (p:=∀g∈([]:List Int),M.bY.mI co g.toNat=false) (by simp) f);exact f.to
 refine(H.Gd (e:=3) (p:=q) (a:=qa) (c:=qc) (xs:=M.bY.running.map fun k:Nat=>(k:Int)) (by have:=List.length_filter_le (fun g=>(M.bY.runs g).isSome) (List.range 16);simp[Mon.running] at this ⊢;omega)).fold
  (X:=fun done=>wtX G Cf m x M n t j co e d l (.ready,none) false (∀g∈done,M.bY.mI co g.toNat=false)) (Z:=fun _ y=>wtX G Cf m x M n t j co e d l (.done,some .ret) true (y∈(M.bY.running.map fun k:Nat=>(k:Int))/\M.bY.mI co y.toNat=true)) f ?_ ?_ ?_
 .intro done y h N W f;obtain⟨w,f⟩:=iG f;have f:=f.Ex;obtain⟨k,A,rfl⟩:∃k∈M.bY.running,(k:Int)=y:=by
   obtain⟨ys,U⟩:=W;have:y∈M.bY.running.map fun k:Nat=>(k:Int):=by rw[<-U];simp
   obtain⟨k,h1,h2⟩:=List.mem_map.1 this;exact⟨k,h1,h2⟩
  obtain⟨r,F⟩:=Option.isSome_iff_exists.1 (rE.1 A).2;have D:M.bY.run (k:Int)=some r:=by unfold Mon.run;rw[aLb (by omega)];exact F
  have B:M.bY.phase (k:Int)≠0:=by
   unfold Mon.phase;rw[D];have:=(hm.run k r F).2.2.1;dsimp only;omega
  have f:=(f.front (sp [aG n 0 [pt m 0 0],aG t 0 [I co],aG j 0 [.bool false]])).Ex;obtain⟨S,f⟩:=yK (f.front (wJ G Cf m x M));refine rW (A7 f) he (lU f fun h f=>aC (b:=n) (o:=0) f rfl (aB (aA (aC (b:=m) (o:=0) f rfl (aI8 (C:=Cf) (m:=M.bY) f fun a h f O α β=>?_)))));rw[O B,D,decide_eq_true B];have f:=Ed (m:=m) (x:=x) M S f;refine aH rfl (aH rfl (bP f fun Y h f=>bH (b:=Y) (vs:=Av r) f rfl rfl rfl rfl fun h f=>fK (aA (aC (b:=Y) (o:=0) f rfl (aC (b:=t) (o:=0) f rfl (bJ (aX (fun J=>?_) (fun J=>?_))))))));refine bH (b:=j) f rfl rfl rfl rfl fun h f=>mB f fun h f=> .inr ⟨rfl,?_⟩;have f:=(f.dF (aG n 0 [pt m 0 0]) (aG t 0 [I co]) (aG j 0 [.bool true])).W8;have f:=f.dF (pP Pr 20 (pM 58) 32 e d l (.done,some .ret)) (sp [aG n 0 [pt m 0 0],aG t 0 [I co],aG j 0 [.bool true]]) (wJ G Cf m x M);refine(Hs.Nx (Hs.To (p:=((k:Int)∈(M.bY.running.map fun k:Nat=>(k:Int))/\M.bY.mI co ((k:Int)).toNat=true)) ⟨List.mem_map.2 ⟨k,A,rfl⟩,?_⟩ f)).to;unfold Mon.mI;rw[Int.toNat_natCast,F];exact decide_eq_true J
  .refine mB f fun h f=> .inl ⟨rfl,?_⟩;have f:=(f.dF (aG n 0 [pt m 0 0]) (aG t 0 [I co]) (aG j 0 [.bool false])).W8;have f:=f.dF (pP Pr 20 (pM 58) 32 e d l (.ready,none)) (sp [aG n 0 [pt m 0 0],aG t 0 [I co],aG j 0 [.bool false]]) (wJ G Cf m x M);refine(Hs.Nx (Hs.To (p:=∀g∈done++[((k:Nat):Int)],M.bY.mI co g.toNat=false) ?_ f)).to;intro g u;rcases List.mem_append.1 u with u|u;exact w g u;rw[List.mem_singleton.1 u,Int.toNat_natCast];unfold Mon.mI;rw[F];exact decide_eq_false J
 intro v h f;obtain⟨w,f⟩:=iG (f.front (wtX G Cf m x M n t j co e d l (.ready,none) false (∀g∈M.bY.running.map (fun k:Nat=>(k:Int)),M.bY.mI co g.toNat=false)));have f:=f.Ex;have T:M.bY.calls co=false:=by
  unfold Mon.calls;rw[List.any_eq_false];intro g u;have:=w g (List.mem_map.2 ⟨g,u,rfl⟩);rw[Int.toNat_natCast] at this;rw[this];simp
 rw[T] at z;have f:=(f.front (sp [aG n 0 [pt m 0 0],aG t 0 [I co],aG j 0 [.bool false]])).Ex;exact uG f fun h f=>uE (bH (b:=j) f rfl rfl rfl rfl fun h f=>oU f fun h f=>lZ (aC (b:=j) (o:=0) f rfl (z _ f.to)))
 .intro done y v h W f;obtain⟨w,f⟩:=iG (f.front (wtX G Cf m x M n t j co e d l (.done,some .ret) true (y∈(M.bY.running.map fun k:Nat=>(k:Int))/\M.bY.mI co y.toNat=true)));have f:=f.Ex;have E:M.bY.calls co=true:=by
   unfold Mon.calls;rw[List.any_eq_true];obtain⟨k,P,R⟩:=List.mem_map.1 w.1;refine⟨k,P,?_⟩;have:=w.2;rw[<-R,Int.toNat_natCast] at this;exact this
  rw[E] at z;have f:=(f.front (sp [aG n 0 [pt m 0 0],aG t 0 [I co],aG j 0 [.bool true]])).Ex;exact Ml f fun h f=>xr (oU f fun h f=>lZ (aC (b:=j) (o:=0) f rfl (z _ f.to)))
end
section
theorem pf {l done:List (Int×Int)} {y:Int×Int} {g:Int} (b:done++[y]<+:l) (a:∀z∈done,z.1≠g) (c:y.1=g):kE l g=some y.2:=by
 obtain⟨r,rfl⟩:=b;unfold kE;rw[List.append_assoc,List.find?_append,List.find?_eq_none.2 (by simpa using a)];simp[c]
theorem Zg {l:List (Int×Int)} {g:Int} (a:∀z∈l,z.1≠g):kE l g=none:=by
 unfold kE;rw[List.find?_eq_none.2 (by simpa using a)];rfl
set_option maxRecDepth 100000
variable {G:Bg} {h:AH} {L L':List HP} {Q:Value->AH->Prop} {Cf:bM} {m:Nat} {M:cT}
abbrev knX (G:Bg) (Cf:bM) (m:Nat) (M:cT) (p2 a:Nat) (g v:Int) (e:Nat->Value) (d l:Nat) (st:LoopState×Option Code) (pr:Prop):HP:=
 sp [Cz pr,pP Pr 194 (pM 218) 25 e d l st,sp [aG p2 0 [I g],aG a 0 [I v]],bT G Cf m M]
theorem zE {l:List Nat} {s:Nat->kO} {i:Nat} {t:kO} (a:i<l.length) (b:Hs G h L) [k:dX (kQ (l.getD i 0) Cf t) L L'] {N:List HP} [c:dX (Dk (qP Cf) l s i) L' N]:Hs G h (oJ (qP Cf) l (aR s i t)::N):=Kq a (b.cX (kQ (l.getD i 0) Cf t) (Dk (qP Cf) l s i))
theorem bN {α:Type} {s:Nat->α} {i:Nat}:aR s i (s i)=s:=by
 funext j;unfold aR;split;rename_i e;rw[e];rfl
theorem km {i:Nat} {g:Int} (F:(i:Int)<Cf.aE) (hb:(M.cG i).known.length<=100) (a:Hs G h L) [E:Has (bT G Cf m) L M L'] (n:∀w,Hs G w (bT G Cf m M::L')->Q (I (M.known i g)) w):Cl Pr K 194 [pt m 0 0,I i,I g] h Q:=by
 unfold cT.known at n;refine cW (dS (E.of a) fun f h a=>bP a fun c h a=>bH (b:=c) a rfl rfl rfl rfl fun h a=>?_);obtain⟨x,A,a⟩:=cU (a.front (bT G Cf m M));have j:i<x.lq.length:=by have:=A.2.2;omega
 refine aB (aA (aC (b:=m) (o:=0) a rfl (Kl a j ?_)));have a:=iJ (R:=qP Cf) (l:=x.lq) (s:=M.cG) j a;refine mu (C:=Cf) (p:=x.lq.getD i 0) (s:=M.cG i) hb a fun q h a=>?_;have a:=zE (Cf:=Cf) (l:=x.lq) (s:=M.cG) (i:=i) (t:=M.cG i) j a;rw[bN] at a;have a:=bK (m:=m) (x:=x) M A a;refine oY a fun d h a=>?_;intro e D;refine tZ a fun l h a=>A8 rfl ?_;have a:Hs G h (Sz q (M.cG i).known::knX G Cf m M f c g 0 e d l (.ready,none) (∀z∈([]:List (Int×Int)),z.1≠g)::mk d ()::L'):=by
  have a:=(a.cX (aG f 0 [I g]) (aG c 0 [I 0])).H9;have a:=a.dF (pP Pr 194 (pM 218) 25 e d l (.ready,none)) (sp [aG f 0 [I g],aG c 0 [I 0]]) (bT G Cf m M);have a:=Hs.Nx (Hs.To (p:=∀z∈([]:List (Int×Int)),z.1≠g) (by simp) a);exact a.to
 refine(aBa (q:=q) (l:=(M.cG i).known) (by omega)).fold
  (X:=fun done=>knX G Cf m M f c g 0 e d l (.ready,none) (∀z∈done,z.1≠g)) (Z:=fun done y=>knX G Cf m M f c g y.2 e d l (.done,some (.exit 0)) (kE (M.cG i).known g=some y.2)) a ?_ ?_ ?_
 .intro done y h N B a;obtain⟨k,a⟩:=iG a;have a:=a.Ex;have a:=(a.front (sp [aG f 0 [I g],aG c 0 [I 0]])).Hh;refine rW (A7 a) D (lU a fun h a=>aC (b:=f) (o:=0) a rfl (bJ (aX (fun u=>?_) (fun u=>?_))));refine bH (b:=c) a rfl rfl rfl rfl fun h a=>mB a fun h a=> .inr ⟨rfl,?_⟩;have a:=(a.cX (aG f 0 [I g]) (aG c 0 [I y.2])).H9;have a:=a.dF (pP Pr 194 (pM 218) 25 e d l (.done,some (.exit 0))) (sp [aG f 0 [I g],aG c 0 [I y.2]]) (bT G Cf m M);exact(Hs.Nx (Hs.To (p:=kE (M.cG i).known g=some y.2) (pf B k u) a)).to
  .refine mB a fun h a=> .inl ⟨rfl,?_⟩;have a:=(a.cX (aG f 0 [I g]) (aG c 0 [I 0])).H9;have a:=a.dF (pP Pr 194 (pM 218) 25 e d l (.ready,none)) (sp [aG f 0 [I g],aG c 0 [I 0]]) (bT G Cf m M);refine(Hs.Nx (Hs.To (p:=∀z∈done++[y],z.1≠g) ?_ a)).to;intro z r;rcases List.mem_append.1 r with r|r;exact k z r;rw[List.mem_singleton.1 r];exact u
 intro v h a;obtain⟨k,a⟩:=iG (a.front (knX G Cf m M f c g 0 e d l (.ready,none) (∀z∈(M.cG i).known,z.1≠g)));have a:=a.Ex;rw[Zg k] at n;have a:=(a.front (sp [aG f 0 [I g],aG c 0 [I 0]])).Hh;exact uG a fun h a=>uE (aC (b:=c) (o:=0) a rfl (oU a fun h a=>lZ (n _ a.to)))
 .intro done y v h B a;obtain⟨k,a⟩:=iG (a.front (knX G Cf m M f c g y.2 e d l (.done,some (.exit 0)) (kE (M.cG i).known g=some y.2)));have a:=a.Ex;rw[k] at n;have a:=(a.front (sp [aG f 0 [I g],aG c 0 [I y.2]])).Hh;exact Ml a fun h a=>Sr rfl (aC (b:=c) (o:=0) a rfl (oU a fun h a=>lZ (n _ a.to)))
end
end Go.Proofs.YtajjljbmfdboaaaGreatDoor
namespace Go.Proofs.YtajjljbmfdboaaaGreatDoor
open Go Go.Ab Go.Hm Go.At Go.Mc Go.Ct Go.Nt Go.Is
section
instance:Fx aJ.enc 9:=inferInstance
structure Gb (G:Bg):Prop where
 lim:Ob G 0 fV
 kin:Ob G 2 yI
 row:Ob G 3 jN
set_option maxRecDepth 100000
variable {G:Bg} {h:AH} {L L':List HP} {Q:Value->AH->Prop} {Cf:bM} {m:Nat} {M:cT}
theorem Fg {α:Type} {R:Nat->Nat->α->HP} {l:List Nat} {s:Nat->α} {i q:Nat} {t:α} (a:i<l.length) (b:Hs G h L) [k:dX (R i q t) L L'] {N:List HP} [c:dX (Dk R l s i) L' N]:Hs G h (oJ R (l.set i q) (aR s i t)::N):=y5 a (b.cX (R i q t) (Dk R l s i))
theorem F9 {F:gO} {l:List aJ} (h:(gO.send Cf F l).2≠0):(gO.send Cf F l).1=F:=by
 unfold gO.send at h ⊢;split;rfl;rename_i a;rw[aLa a] at h;cases hp:gO.zT Cf.depth F l with
 |none=>rfl
 |some b=>rw[hp] at h;exact absurd rfl h
theorem yp {i:Nat} {g:Int} (hC:Cf.Ok) (hG:Gb G) (A:(i:Int)<Cf.aE) (hb:(M.cG i).known.length<=100) (y:qn Cf M.kL) (d:Hs G h L) [z:Has (bT G Cf m) L M L'] (k:∀w,Hs G w (bT G Cf m (M.walk Cf i g).1::L')->Q (I (M.walk Cf i g).2) w):Cl Pr K 193 [pt m 0 0,I i,I g] h Q:=by
 unfold cT.walk at k;obtain⟨x,r,d⟩:=cU (z.of d);have j:i<x.lq.length:=by have:=r.2.2;omega
 refine cW (aB (aA (aC (b:=m) (o:=0) d rfl (Kl d j ?_))));have d:=iJ (R:=qP Cf) (l:=x.lq) (s:=M.cG) j d;refine D3 (C:=Cf) (p:=x.lq.getD i 0) (s:=M.cG i) hb d fun q h d=>?_;refine Ul (C:=Cf) (p:=q) (s:=M.cG i) hC hb d fun h d=>aH rfl (aH rfl (bC (aX (fun v=>?_) (fun v=>?_))));rw[aLb v] at k;have d:=zE (Cf:=Cf) (l:=x.lq) (s:=M.cG) (i:=i) (t:=M.cG i) j d;rw[bN] at d;exact k _ (bK (m:=m) (x:=x) M r d).to;rw[aLa v] at k;refine bW (aB (aA (aC (b:=m) (o:=0) d rfl (aQ (c:=(dL 6 i ((M.cG i).begin Cf g).2.1).enc) rfl (aQ (c:=(dL 6 i ((M.cG i).begin Cf g).2.1).enc) rfl (dW (W:=9) (n:=1) (c:=1) d rfl rfl rfl fun a h d=>?_))))));have d:=yB (enc:=aJ.enc) (x:=dL 6 i ((M.cG i).begin Cf g).2.1) d;refine Ge (C:=Cf) (f:=x.fb) (F:=M.kL) (l:=[dL 6 i ((M.cG i).begin Cf g).2.1]) (a:=some a) (c:=1) hC (y.X6 hC) (by simp) hG.kin hG.lim d fun h d=>bC (aX (fun u=>?_) (fun u=>?_));dsimp only at k;rw[aLb u] at k;rw[F9 u] at d;have d:=zE (Cf:=Cf) (l:=x.lq) (s:=M.cG) (i:=i) (t:=M.cG i) j d;rw[bN] at d;exact k _ (bK (m:=m) (x:=x) M r d).to;dsimp only at k;rw[aLa u] at k;refine bW (aB (aA (aC (b:=m) (o:=0) d rfl (Rt d j fun h d=>k _ ?_))));have d:=Fg (R:=qP Cf) (l:=x.lq) (s:=M.cG) (i:=i) (q:=q) (t:=((M.cG i).begin Cf g).1) j d;have e:fL Cf x M.log.length=fL Cf {x with lq:=x.lq.set i q} M.log.length:=by unfold fL;rw[List.length_set]
 rw[e] at d;exact(bK (m:=m) (x:={x with lq:=x.lq.set i q}) ((M.dR (gO.send Cf M.kL [dL 6 i ((M.cG i).begin Cf g).2.1]).1).Er i ((M.cG i).begin Cf g).1) ⟨r.1,r.2.1,by rw[List.length_set];exact r.2.2⟩ d).to
end
section
set_option maxRecDepth 100000
variable {G:Bg} {h:AH} {L L':List HP} {Q:Value->AH->Prop} {Cf:bM} {m:Nat} {M:cT}
theorem Uu {l:List Nat} {S:Nat->aK} {i:Nat} {k:Value->Prop} (e:i<l.length) (d:Hs G h L) [g:Has (oJ jU l) L S L'] (f:k (I (S i).world)):bE (nG (pt (l.getD i 0) 0 0)) fun v=>bE (iN 0 v) fun v=>bE (iN 5 v) fun v=>bE (rT h v) k:=by
 have d:=iJ (R:=jU) (l:=l) (s:=S) e d;obtain⟨a,c,d⟩:=rB d;exact aB (aA (aA (aC (b:=l.getD i 0) (o:=0) d rfl f)))
theorem Cm {l:List Nat} {s:Nat->gZ} {i:Nat} {t:gZ} (a:i<l.length) (b:Hs G h L) [k:dX (C.hM G (l.getD i 0) Cf i t) L L'] {N:List HP} [c:dX (Dk (sC G Cf) l s i) L' N]:Hs G h (oJ (sC G Cf) l (aR s i t)::N):=Kq a (b.cX (C.hM G (l.getD i 0) Cf i t) (Dk (sC G Cf) l s i))
theorem va {i:Nat} {line:Int} {wr:Bool} (hC:Cf.Ok) (hG:Gb G) (B:(i:Int)<Cf.aE) (hb:iL Cf (M.dD i)) (z:qn Cf M.kL) (d:Hs G h L) [A:Has (bT G Cf m) L M L'] (j:∀y,Hs G y (bT G Cf m (M.want Cf i line wr).1::L')->Q (I (M.want Cf i line wr).2) y):Cl Pr K 196 [pt m 0 0,I i,I line,.bool wr] h Q:=by
 unfold cT.want at j;have n:Bd (M.dD i):=hb.bd (lK hC).2.2.2;obtain⟨x,k,d⟩:=cU (A.of d);have r:i<x.lc.length:=by have:=k.1;omega
 have g:i<x.lk.length:=by have:=k.2.1;omega
 refine cW (aB (aA (aC (b:=m) (o:=0) d rfl (M9 d g ?_))));have d:=iJ (R:=sC G Cf) (l:=x.lk) (s:=M.dD) g d;refine C.cr (C:=Cf) (core:=(i:Int)) (c:=x.lk.getD i 0) (s:=M.dD i) hC n d fun q h d=>?_;refine aB (aA (aC (b:=m) (o:=0) d rfl (J1 d r (Uu (l:=x.lc) (S:=M.aD) r d ?_))));refine C.aA9 (C:=Cf) (core:=(i:Int)) (c:=q) (s:=M.dD i) hC n hG.lim hG.row d fun a c h d=>aH rfl (aH rfl (bC (aX (fun v=>?_) (fun v=>?_))));rw[aLb v] at j;have d:=Cm (Cf:=Cf) (l:=x.lk) (s:=M.dD) (i:=i) (t:=M.dD i) g d;rw[bN] at d;exact j _ (bK (m:=m) (x:=x) M k d).to;rw[aLa v] at j;have d:Hs G h (vS a c (want Cf i (M.dD i) line (M.aD i).world wr).2.1::_):=d;refine bW (aB (aA (aC (b:=m) (o:=0) d rfl ?_)));refine Ge (C:=Cf) (f:=x.fb) (F:=M.kL) (l:=(want Cf i (M.dD i) line (M.aD i).world wr).2.1) (a:=a) (c:=c) hC (z.X6 hC) (by have:=vt (C:=Cf) (core:=(i:Int)) (s:=M.dD i) (l:=line) (w:=(M.aD i).world) (wr:=wr);omega) hG.kin hG.lim d fun h d=>bC (aX (fun u=>?_) (fun u=>?_));dsimp only at j;rw[aLb u] at j;rw[F9 u] at d;have d:=Cm (Cf:=Cf) (l:=x.lk) (s:=M.dD) (i:=i) (t:=M.dD i) g d;rw[bN] at d;exact j _ (bK (m:=m) (x:=x) M k d).to;dsimp only at j;rw[aLa u] at j;refine bW (aB (aA (aC (b:=m) (o:=0) d rfl (bq d g fun h d=>j _ ?_))));have d:=Fg (R:=sC G Cf) (l:=x.lk) (s:=M.dD) (i:=i) (q:=q) (t:=(want Cf i (M.dD i) line (M.aD i).world wr).1) g d;have e:fL Cf x M.log.length=fL Cf {x with lk:=x.lk.set i q} M.log.length:=by unfold fL;rw[List.length_set]
 rw[e] at d;exact(bK (m:=m) (x:={x with lk:=x.lk.set i q}) ((M.dR (gO.send Cf M.kL (want Cf i (M.dD i) line (M.aD i).world wr).2.1).1).uQ i (want Cf i (M.dD i) line (M.aD i).world wr).1) ⟨k.1,by rw[List.length_set];exact k.2.1,k.2.2⟩ d).to
end
section
theorem Xv {g:Int} {i:Nat}:(List.range (i+1)).map (fun i:Nat=>dL 13 i g)=(List.range i).map (fun i:Nat=>dL 13 i g)++[dL 13 i g]:=by
 rw[List.range_succ,List.map_append];rfl
set_option maxRecDepth 100000
variable {G:Bg} {h:AH} {L L':List HP} {Q:Value->AH->Prop} {Cf:bM} {m:Nat} {M:cT}
theorem w8 {i:Nat} {a:Mc.Ask} (hC:Cf.Ok) (hG:Gb G) (R:(i:Int)<Cf.aE) (N:iF Cf M.bY) (U:(M.aD i).Ok) (v:M.log.length<=2^30) (O:qn Cf M.kL) (d:Hs G h L) [Y:Has (bT G Cf m) L M L'] (g:∀t,Hs G t (bT G Cf m (M.call Cf i a).1::L')->Q (I (M.call Cf i a).2) t):Cl Pr K 153 [pt m 0 0,I i,.agg ⟨a.enc⟩] h Q:=by
 unfold cT.call at g;have Z:=hC.1;refine cW (dS (Y.of d) fun D h d=>?_);obtain⟨x,B,d⟩:=cU (d.front (bT G Cf m M));refine aB (aA (aC (b:=m) (o:=0) d rfl (M4 (C:=Cf) (m:=M.bY) hC N d fun q h d=>?_)));have V:=d.tail;refine aU (b:=D) (o:=0) d (by decide) (l:=a.enc) rfl rfl (ba (C:=Cf) (m:=M.bY) (p:=q) hC N d fun h d=>aH rfl (aH rfl (bC (aX (fun E=>?_) (fun E=>?_)))));rw[aLb E] at g;have d:=bK (m:=m) (x:=x) M B d;exact nU (Cf:=Cf) (M:=M) R U v d fun h d=>g _ d.to;rw[aLa E] at g;generalize P:M.bY.call Cf.aE a=rc at g d;have loop:∀(f j:Nat) (h:AH) (b:Option Addr) (c:Nat),j+f=Cf.aE.toNat->Hs G h (vS b c ((List.range j).map fun i:Nat=>dL 13 i a.bI)::fY Cf q rc.1::aG m 0 (fL Cf x M.log.length)::Mb x.ac x.cc x.lc::W7 x.ak x.ck x.lk::W9 x.aq x.cq x.lq::
   oJ jU x.lc M.aD::oJ (sC G Cf) x.lk M.dD::oJ (qP Cf) x.lq M.cG::H.gP G x.hb Cf M.home::fY Cf x.mb M.bY::vQ Cf x.fb M.kL::C3 x.al x.cl M.log::aG D 0 a.enc::L')->
   Dd 153 2 [] Q [(pt m 0 0),(pt D 0 0),(pt q 0 0),(.slice b j c),(I Cf.aE),(I j)] h:=by
  intro f
  induction f with
  |zero=>
   intro j h b c S d
   have J:j=Cf.aE.toNat:=by omega
   have r:((List.range j).map fun i:Nat=>dL 13 i a.bI)=tK Cf.aE a.bI:=by rw[J];rfl
   rw[r] at d
   have u:(tK Cf.aE a.bI).length=j:=by rw[<-r];simp
   refine bW (aZ (aT (by omega) (bW (aB (aA (aC (b:=m) (o:=0) d rfl ?_))))))
   rw[<-u]
   refine Ge (C:=Cf) (f:=x.fb) (F:=M.kL) (l:=tK Cf.aE a.bI) (a:=b) (c:=c) hC (O.X6 hC) (by omega) hG.kin hG.lim d fun h d=>bC (aX (fun A=>?_) (fun A=>?_))
   .dsimp only at g;rw[aLb A] at g;rw[F9 A] at d;exact g _ (bK (m:=m) (x:=x) M B d).to
   .dsimp only at g;rw[aLa A] at g;refine bW (aB (aA (bL (b:=m) (o:=0) d rfl rfl rfl rfl fun h d=>g _ ?_)));have e:dR (fL Cf x M.log.length) (0+11) [pt q 0 0]=fL Cf {x with mb:=q} M.log.length:=rfl;rw[e] at d;exact(bK (m:=m) (x:={x with mb:=q}) ((M.dR (gO.send Cf M.kL (tK Cf.aE a.bI)).1).kD rc.1) B d).to
  |succ f X=>
   intro j h b c S d
   refine bW (aZ (bV (by omega) (bW (aA (aC (b:=D) (o:=0) d rfl (aQ (c:=(dL 13 j a.bI).enc) rfl (aQ (c:=(dL 13 j a.bI).enc) rfl (dW (W:=9) (n:=1) (c:=1) d rfl rfl rfl fun y h d=>?_))))))))
   have d:=yB (enc:=aJ.enc) (x:=dL 13 j a.bI) d
   have r:((List.range j).map fun i:Nat=>dL 13 i a.bI).length=j:=by simp
   have ap:∀k:Value×AH->Prop,(∀w z t,Hs G t (vS w z ((List.range j).map (fun i:Nat=>dL 13 i a.bI)++[dL 13 j a.bI])::vS (some y) 1 [dL 13 j a.bI]::_)->k (.slice w ((List.range j).map (fun i:Nat=>dL 13 i a.bI)++[dL 13 j a.bI]).length z,t))->bE (kI 9 72 175 h (.slice b ((List.range j).map fun i:Nat=>dL 13 i a.bI).length c) (.slice (some y) [dL 13 j a.bI].length 1)) k:=fun k g=>uZ (enc:=aJ.enc) (e:=175) (l:=(List.range j).map fun i:Nat=>dL 13 i a.bI) (l2:=[dL 13 j a.bI]) (a:=b) (c:=c) (a2:=some y) (c2:=1) d (by simp;omega) g
   rw[r] at ap
   refine ap _ fun w z h d=>bQ (by omega) ?_
   rw[<-Xv] at d ⊢
   have:=X (j+1) h w z (by omega) d.to
   rw[show((List.range (j+1)).map fun i:Nat=>dL 13 i a.bI).length=j+1 by simp]
   exact this
 have T:x.lc.length=Cf.aE.toNat:=B.1;refine bW (aB (aA (aC (b:=m) (o:=0) d rfl (cC ?_))));have d:Hs G h (vS none 0 ((List.range 0).map fun i:Nat=>dL 13 i a.bI)::_):=uA (enc:=aJ.enc) (e:=175) d;have e:(x.lc.length:Int)=Cf.aE:=by omega
 rw[e];exact loop Cf.aE.toNat 0 h none 0 (by omega) d.to
end
end Go.Proofs.YtajjljbmfdboaaaGreatDoor
end
