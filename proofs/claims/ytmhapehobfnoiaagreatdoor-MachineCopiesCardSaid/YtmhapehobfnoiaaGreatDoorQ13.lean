/- A part of the proof. -/
import Derived.Test.YtmhapehobfnoiaaGreatDoorQ10
import Derived.Test.YtmhapehobfnoiaaGreatDoorQ9
import Derived.Test.YtmhapehobfnoiaaGreatDoorQ12
section
open Go Go.Ab
attribute [local irreducible] bA Br ld1 rT sH A2 lH tD kC Nk fZ lT oX oU nW kS xH sY Ts Pe No M5 Qt Ns Ei Gm Sb jV nR qR iK copyV gZ vD Tg Tm E6 jX Kb Pq Tl mL pD uW vP Cl xS Tb qW qT jA eX cS bZ
namespace Go.Proofs.YtmhapehobfnoiaaGreatDoor
open Go Go.Ab Go.Hm Go.At Go.Mc
section
instance:Fx dA 2:=⟨fun _=>rfl,fun _=>rfl⟩
def w7 (p:Int×Int->Bool):List (Int×Int)->Nat->Int
 |[],_=> -1
 |x::l,i=>if p x then(i:Int) else w7 p l (i+1)
theorem Kc {p:Int×Int->Bool}:∀{l:List (Int×Int)} {i:Nat},(w7 p l i= -1/\(∀x∈l,p x=false))\/∃j x,w7 p l i=((i+j:Nat):Int)/\l[j]?=some x/\p x=true/\∀y∈l.take j,p y=false
 |[],i=> .inl ⟨rfl,fun _ h=>by cases h⟩
 |x::l,i=>by
  unfold w7;split;rename_i b;exact .inr ⟨0,x,by simp,rfl,b,fun _ h=>by cases h⟩;rename_i b;have b:p x=false:=by simpa using b
  rcases Kc (p:=p) (l:=l) (i:=i+1) with⟨c,d⟩|⟨j,y,c,d,e,f⟩;refine .inl ⟨c,fun z a=>?_⟩;rcases List.mem_cons.1 a with rfl|a;exact b;exact d z a;refine .inr ⟨j+1,y,by rw[c];congr 1;omega,by simpa using d,e,fun z a=>?_⟩;rw[List.take_succ_cons] at a;rcases List.mem_cons.1 a with rfl|a;exact b;exact f z a
def isG (g:Int) (x:Int×Int):Bool:=decide (x.1=g)
theorem Aw {g:Int} {l:List (Int×Int)}:(w7 (isG g) l 0= -1/\lS l g=none)\/∃(j:Nat) (x:Int×Int),w7 (isG g) l 0=(j:Int)/\l[j]?=some x/\lS l g=some x.2:=by
 rcases Kc (p:=isG g) (l:=l) (i:=0) with⟨b,a⟩|⟨j,x,b,a,c,d⟩;refine .inl ⟨b,?_⟩;unfold lS;rw[List.find?_eq_none.2 fun x k=>by have:=a x k;unfold isG at this;simpa using this];rfl;refine .inr ⟨j,x,by rw[b,Nat.zero_add],a,?_⟩;unfold lS;have:l.find? (fun x=>decide (x.1=g))=some x:=by
  rw[List.find?_eq_some_iff_append];refine⟨c,l.take j,l.drop (j+1),?_,fun y n=>by have:=d y n;unfold isG at this;simpa using this⟩;obtain⟨f,e⟩:=List.getElem?_eq_some_iff.1 a;rw[<-e,<-List.drop_eq_getElem_cons f,List.take_append_drop]
 rw[this];rfl
set_option maxRecDepth 100000
variable {G:Bg} {h:AH} {L L':List HP} {Q:Value->AH->Prop} {C:bQ}
def xY (C:bQ) (s:kY) (a:Option Addr) (c:Nat):List Value:=[.bool s.pC,I s.cN,I s.at',.bool s.tN,I C.entries,I C.bM,.slice a s.known.length c]
def jE (p:Nat) (C:bQ) (s:kY):HP:=qV fun x:Option Addr×Nat=>sp [aE p 0 (xY C s x.1 x.2),ls dA 2 266 x.1 x.2 s.known]
theorem kP {p:Nat} {s:kY} (b:Hs G h (jE p C s::L)):∃a c,Hs G h (aE p 0 (xY C s a c)::ls dA 2 266 a c s.known::L):=by
 obtain⟨⟨a,c⟩,b⟩:=b.rS;exact⟨a,c,b.Bn⟩
theorem dZ (p:Nat) (C:bQ) (s:kY) {a:Option Addr} {c:Nat} {cs:List Value} {l:List (Int×Int)} {b L2:List HP} (f:Hs G h L) [m:Has (aE p 0) L cs b] [m2:Has (ls dA 2 266 a c) b l L2] (d:cs=xY C s a c) (e:l=s.known):Hs G h (jE p C s::L2):=by
 subst d;subst e;exact Hs.oZ (A:=fun x:Option Addr×Nat=>sp [aE p 0 (xY C s x.1 x.2),ls dA 2 266 x.1 x.2 s.known]) (a,c) (Hs.pack (A:=[_,_]) (f.perm (m.perm.trans (m2.perm.cons _))))
theorem jw (hC:C.Ok) (d:Hs G h L) (g:∀p f,Hs G f (jE p C Hx::L)->Q (.tuple ⟨[pt p 0 0,I 0]⟩) f):Cl Pr K 38 [I C.entries,I C.bM] h Q:=by
 have b:=hC;unfold bQ.Ok at b;refine cW (aI (aaa (iM (aaa (aI (aaa (iM (aaa ?_))))))));refine aJ (c:=xY C Hx none 0) rfl (dL d fun p h d=>g _ _ ?_);exact dZ p C Hx (a:=none) (c:=0) ((jB (enc:=dA) (W:=2) (e:=266) d)) rfl rfl
theorem Ec {a:Option Addr} {c:Nat} {l:List (Int×Int)} (hb:l.length<=100) (j:Hs G h L) [m:Has (ls dA 2 266 a c) L l L']
  (g:∀b d f,Hs G f (ls dA 2 266 b d l::ls dA 2 266 a c l::L')->Q (.slice b l.length d) f):Cl Pr K 108 [.slice a l.length c] h Q:=
 cW (vW (e:=266) (show Hs G h (dI 2 266 a c (l.length,eL dA l)::L') from m.of j) (by omega) g)
theorem wY {p:Nat} {s:kY} (hb:s.known.length<=100) (d:Hs G h L) [m:Has (jE p C) L s L'] (j:∀q e,Hs G e (jE q C s::jE p C s::L')->Q (pt q 0 0) e):Cl Pr K 77 [pt p 0 0] h Q:=by
 obtain⟨a,c,d⟩:=kP (m.of d);refine cW (cK (bP (bW (aB (an p d (l:=xY C s a c) rfl rfl (bN d fun q h d=>ax d fun h d=>?_))))));refine aB (aA (am p d rfl (Ec (a:=a) (c:=c) (l:=s.known) hb d fun f g h d=>aA (ay (b:=q) (o:=0) d fun h d=>j _ _ ?_))));have d:=dZ p C s (a:=a) (c:=c) (d.bL (aE p 0 (xY C s a c)) (ls dA 2 266 a c s.known)) rfl rfl;exact(dZ q C s (a:=f) (c:=g) d rfl rfl)
def aA3 (G:Bg) (f:Value) (A:HP) (p:Int×Int->Bool):Prop:=∀(x:Int×Int) (h:AH) (L:List HP) (Q:Value->AH->Prop),Hs G h (A::L)->(∀a,Hs G a (A::L)->Q (.bool (p x)) a)->xS Pr K f [.agg ⟨dA x⟩] h Q
theorem Wj {f:Value} {A:HP} {p:Int×Int->Bool} (q:aA3 G f A p) {a:Option Addr} {c:Nat} {l:List (Int×Int)} (hb:l.length<=1000) (b:Hs G h (A::ls dA 2 266 a c l::L))
  (n:∀j,Hs G j (A::ls dA 2 266 a c l::L)->Q (I (w7 p l 0)) j):Cl Pr K 304 [.slice a l.length c,f] h Q:=by
 refine cW (bH ?_)
 have loop:∀(k i:Nat) (h:AH),i+k=l.length->w7 p l 0=w7 p (l.drop i) i->Hs G h (A::ls dA 2 266 a c l::L)->Dd 304 1 [] Q [(.slice a l.length c),f,(I l.length),(I i)] h:=by
  intro k;induction k with
  |zero=>
   intro i h r d b;rw[List.drop_of_length_le (by omega)] at d;refine bW (aI (aaa ?_));have:=n _ b;rw[d] at this;exact this
  |succ k u=>
   intro i h r d b;obtain⟨x,t,o⟩:=lK (l:=l) (i:=i) (by omega);rw[o,w7] at d;refine bW (aI (aad (bW (jM (l:=l) (a:=a) (c:=c) (enc:=dA) (e:=266) b (by decide) (by omega) (by rw[Int.toNat_natCast];exact t) (q x h _ _ b fun h b=>dH (fun g=>?_) (fun g=>?_))))));have:=n _ b;rw[d,aLy g] at this;exact this;rw[aLx (by rw[g];simp)] at d;exact bW (aac (u (i+1) h (by omega) d b))
 exact loop l.length 0 h (by omega) (by rw[List.drop_zero]) b
theorem aFe {p:Nat} {g:Int}:aA3 G (.func (.func 305) #[] #[pt p 0 0]) (aE p 0 [I g]) (isG g):=by
 intro x h L Q a c;refine qN rfl (cW (dL a fun q h a=>aA (am q a rfl (am p a rfl (bG (c _ a.tail))))))
theorem Le {p:Nat} {s:kY} {g:Int} (hb:s.known.length<=100) (d:Hs G h L) [m:Has (jE p C) L s L'] (f:∀e,Hs G e (jE p C s::L')->Q (I (w7 (isG g) s.known 0)) e):Cl Pr K 264 [pt p 0 0,I g] h Q:=by
 obtain⟨a,c,d⟩:=kP (m.of d);refine cW (dL d fun q h d=>aB (aA (am p d rfl ?_)));have d:Hs G h (aE q 0 [I g]::ls dA 2 266 a c s.known::aE p 0 (xY C s a c)::L'):=d.to;refine Wj aFe (by omega) d fun h d=>f _ ?_;exact(dZ p C s (a:=a) (c:=c) d rfl rfl).to
theorem mv {p:Nat} {s:kY} {w g:Int} (hb:s.known.length<=100) (d:Hs G h L) [m:Has (jE p C) L s L'] (f:∀u,Hs G u (jE p C s::L')->Q (.tuple ⟨[I (s.ask C w g).1,I (s.ask C w g).2]⟩) u):Cl Pr K 207 [pt p 0 0,I w,I g] h Q:=by
 obtain⟨a,c,d⟩:=kP (m.of d);unfold kY.ask at f;have k:∀{h:AH},Hs G h (aE p 0 (xY C s a c)::ls dA 2 266 a c s.known::L')->Hs G h (jE p C s::L'):=fun d=>dZ p C s (a:=a) (c:=c) d rfl rfl;refine cW (cK (bP (bW (aI (aT (fun v=>?_) (fun v=>aB (aA (am p d rfl (dV (aT (fun y=>?_) (fun y=>aI (aT (fun z=>?_) (fun z=>iM (aT (fun A=>?_) (fun A=>?_)))))))))))))));rw[aab] at f;exact f _ (k d);rw[aab] at f;exact f _ (k d);rw[aab] at f;exact f _ (k d);rw[aab] at f;exact f _ (k d);rw[aae] at f;refine bW (Le (C:=C) hb (k d) fun h d=>aI (aT (fun B=>?_) (fun B=>?_)));rcases Aw (g:=g) (l:=s.known) with⟨q,n⟩|⟨j,x,q,n,t⟩;rw[n] at f;exact f _ d;omega;rcases Aw (g:=g) (l:=s.known) with⟨q,n⟩|⟨j,x,q,n,t⟩;omega;rw[t] at f;rw[q];obtain⟨a,c,d⟩:=kP d;refine bW (aB (aA (am p d rfl (W5 (l:=s.known) (a:=a) (c:=c) (enc:=dA) (e:=266) d (by omega) (by rw[Int.toNat_natCast];exact n) rfl (Ss (dH (fun r=>?_) (fun r=>?_)))))));simp only[r,if_true] at f;exact f _ (dZ p C s (a:=a) (c:=c) d rfl rfl);simp only[r] at f;exact f _ (dZ p C s (a:=a) (c:=c) d rfl rfl)
theorem Uj {p:Nat} {s:kY} {g:Int} (hC:C.Ok) (hb:s.known.length<=100) (d:Hs G h L) [m:Has (jE p C) L s L'] (e:∀t,Hs G t (jE p C (s.begin C g).1::L')->Q (.tuple ⟨[I (s.begin C g).2.1,I (s.begin C g).2.2]⟩) t):Cl Pr K 266 [pt p 0 0,I g] h Q:=by
 have y:=hC.2.1.2;obtain⟨a,c,d⟩:=kP (m.of d);unfold kY.begin at e;have f:∀{h:AH},Hs G h (aE p 0 (xY C s a c)::ls dA 2 266 a c s.known::L')->Hs G h (jE p C s::L'):=fun d=>dZ p C s (a:=a) (c:=c) d rfl rfl;refine cW (cK (bP (bW (aI (aT (fun u=>?_) (fun u=>aB (aA (am p d rfl (dV (aT (fun v=>?_) (fun v=>?_)))))))))));rw[aae] at e;exact e _ (f d);rw[aae] at e;exact e _ (f d);rw[aab] at e;refine bW (Le (C:=C) hb (f d) fun h d=>dV (aT (fun w=>?_) (fun w=>?_)));rcases Aw (g:=g) (l:=s.known) with⟨n,k⟩|⟨j,x,n,k,r⟩;omega;rw[r] at e;exact e _ d;rcases Aw (g:=g) (l:=s.known) with⟨n,k⟩|⟨j,x,n,k,r⟩;rw[k] at e;simp only[Option.isSome_none,Bool.false_eq_true,if_false] at e;obtain⟨a,c,d⟩:=kP d;refine bW (aB (aA (aA (am p d rfl (dH (fun q=>?_) (fun q=>?_))))));simp only[q,if_true] at e;exact e _ (dZ p C s (a:=a) (c:=c) d rfl rfl);simp only[q,Bool.false_eq_true,if_false] at e;refine bW (uV (by omega) (aG rfl (aG rfl (aX (aaa (bW (aJ (c:=[.bool true,I g,I (g/4),.bool false]) rfl (aB (aA (ay (b:=p) (o:=0) d fun h d=>e _ ?_))))))))));exact dZ p C (s.start g) (a:=a) (c:=c) d rfl rfl;omega
end
section
theorem aDv (m:Nat):(eB [I 0,I 0] m).length=m*2/\(eB [I 0,I 0] m).all eK=true:=by
 have:eB [I 0,I 0] m=eL dA (List.replicate m (0,0)):=by
  induction m with
  |zero=>rfl
  |succ m a=>rw[List.replicate_succ,oJ,<-a];rfl
 rw[this];exact⟨by rw[yW,List.length_replicate],Gg⟩
set_option maxRecDepth 100000
variable {G:Bg} {h:AH} {L L':List HP} {Q:Value->AH->Prop} {C:bQ}
theorem Yi {a:Option Addr} {c:Nat} {l:List (Int×Int)} (n:0<l.length) (d:Hs G h L) [m:Has (ls dA 2 266 a c) L l L']
  (y:∀k,Hs G k (ls dA 2 266 a c (l.drop 1)::L')->Q (.slice a (l.drop 1).length c) k):Cl Pr K 321 [.slice a l.length c,I 0,I 1] h Q:=by
 have d:Hs G h (dI 2 266 a c (l.length,eL dA l)::L'):=m.of d
 have f:l.length<=c:=by
  obtain⟨r,A,⟨_,_,z⟩,_⟩:=d.fst;rcases z with⟨j,_⟩|⟨j,_⟩|⟨f,_⟩;simp only at j;omega;simp only at j;omega;exact f
 obtain⟨b,o,w,_⟩:=d.oT n
 refine cW (bH ?_)
 refine xI (v:= .slice (some ⟨b,o+0*2,none⟩) (0+1 - 0) (l.length - 0)) ?_ ?_
 .subst w;have q:lF (some (I l.length)) c c=some l.length:=by simp only[lF];rw[aae];simp
  have t:lF (some (I 1)) l.length l.length=some 1:=by simp only[lF];rw[aae];rfl
  have u:lF (some (I 0)) 0 1=some 0:=by simp only[lF];rw[aae];rfl
  have g:¬l.length=0:=by omega
  simp only[vD,q,t,u,Option.isNone_some,Bool.false_and,Option.isSome_none,Bool.false_eq_true,if_false,g,dB]
  rw[aae]
 refine bG (aaa (bW (bH (aS d ?_))))
 intro r h d
 refine aDi (i:=0) (by decide) rfl rfl n d ?_
 intro h d
 have e:(eL dA l).take (0*2)++(eL dA l).drop ((0+1)*2)=eL dA (l.drop 1):=by rw[Qu];simp
 rw[e] at d
 have:=y h
 rw[List.length_drop] at this
 refine this ?_
 unfold ls
 rw[List.length_drop]
 exact d.to
theorem uz {p:Nat} {s:kY} {x:Int×Int} (hC:C.Ok) (hb:s.known.length<=100) (d:Hs G h L) [m:Has (jE p C) L s L'] (g:∀t,Hs G t (jE p C (s.Hl C x)::L')->Q (.tuple ⟨[]⟩) t):Cl Pr K 281 [pt p 0 0,.agg ⟨dA x⟩] h Q:=by
 have v:1<=C.entries/\C.entries<=8:=hC.2.2.2.2.2.1;obtain⟨a,c,d⟩:=kP (m.of d);unfold kY.Hl at g;refine cW (dL d fun q h d=>aS d fun w h d=>?_);refine aB (aA (am p d rfl (bH (aB (aA (am p d rfl (dV (aT (fun n=>?_) (fun n=>?_)))))))));rw[aLy n] at g;refine bW (aB (aA (am p d rfl (Yi (a:=a) (c:=c) (l:=s.known) (by omega) d fun h d=>?_))));refine aB (aA (ay (b:=p) (o:=0) d fun h d=>aS d fun u h d=>aB (aA (am p d rfl (an q d (l:=dA x) rfl rfl (aJ (c:=dA x) rfl (gM (i:=6) (N:=11) (D:=[]) d rfl rfl rfl rfl rfl fun f h d=>?_)))))));refine kL (enc:=dA) (W:=2) (e:=266) (a:=a) (c:=c) (l:=s.known.drop 1) (a2:=some f) (c2:=1) (l2:=[x]) (show Hs G h (ls dA 2 266 (some f) 1 [x]::_) from d) (by simp;omega) fun j k h d=>?_;refine aB (aA (ay (b:=p) (o:=0) d fun h d=>bV bX (g _ ?_)));exact(dZ p C {s with known:=s.known.drop 1++[x]} (a:=j) (c:=k) d rfl rfl).to;rw[aLx n] at g;refine aS d fun u h d=>aB (aA (am p d rfl (an q d (l:=dA x) rfl rfl (aJ (c:=dA x) rfl (gM (r:=u) (i:=6) (N:=11) (D:=[]) d rfl rfl rfl rfl rfl fun f h d=>?_)))));refine kL (enc:=dA) (W:=2) (e:=266) (a:=a) (c:=c) (l:=s.known) (a2:=some f) (c2:=1) (l2:=[x]) (show Hs G h (ls dA 2 266 (some f) 1 [x]::_) from d) (by simp;omega) fun j k h d=>?_;refine aB (aA (ay (b:=p) (o:=0) d fun h d=>bV bX (g _ ?_)));exact(dZ p C {s with known:=s.known++[x]} (a:=j) (c:=k) d rfl rfl).to
theorem jh {p:Nat} {s:kY} {at' w:Int} (hC:C.Ok) (hb:s.known.length<=100) (H:0<=s.cN/\s.cN<C.bM) (R:0<=w/\w<=1000000) (d:Hs G h L) [m:Has (jE p C) L s L']
  (f:∀l,Hs G l (jE p C (s.walked C at' w).1::L')->Q (.tuple ⟨[I (s.walked C at' w).2.1,.bool (s.walked C at' w).2.2.1,I (s.walked C at' w).2.2.2]⟩) l):Cl Pr K 221 [pt p 0 0,I at',I w] h Q:=by
 have P:=hC.2.1
 obtain⟨a,c,d⟩:=kP (m.of d)
 unfold kY.walked at f
 have t:∀{h:AH},Hs G h (aE p 0 (xY C s a c)::ls dA 2 266 a c s.known::L')->Hs G h (jE p C s::L'):=fun d=>dZ p C s (a:=a) (c:=c) d rfl rfl
 refine cW (cK (bP (bW (aB (aA (aA (am p d rfl (bY (dY (dH (fun y=>?_) (fun y=>?_)))))))))))
 rotate_left
 .rw[aLy y] at f;exact f _ (t d)
 rw[aLx (by rw[y];simp)] at f
 refine bW (aB (aA (aA (am p d rfl (aX (aT (fun z=>?_) (fun z=>?_)))))))
 .rw[aLy z] at f;exact f _ (t d)
 rw[aLx z] at f
 refine bW (aB (aA (aA (am p d rfl (uV (by omega) (aG rfl (aG rfl (aX (aaa (bW (aB (aA (aA (am p d rfl (dH (fun A=>?_) (fun A=>?_))))))))))))))))
 .rw[aLy A] at f;refine bW (aB (aA (aA (ay (b:=p) (o:=0) d fun h d=>aB (aA (aA (ay (b:=p) (o:=0) d fun h d=>f _ ?_)))))));exact dZ p C s.fresh (a:=a) (c:=c) d rfl rfl
 rw[aLx (by rw[A];simp)] at f
 refine bW (aS d fun T h d=>aB (aA (am p d rfl (aB (aA (aA (am p d rfl (ve (n:=C.bM) (g:=s.cN) ⟨P,H⟩ R d fun h d=>?_))))))))
 generalize Lg C.bM s.cN at' w=r at f
 obtain⟨nx,x,S,e⟩:=r
 simp only at f ⊢
 refine aG rfl (aG rfl (aG rfl (aG rfl (kI (i:=17) (n:=22) (D:=[]) d rfl rfl fun j h d=>ax (b:=j) d fun h d=>bV (aG rfl aJ1) (bV (aG rfl iN) (aX (aT (fun B=>?_) (fun B=>?_))))))))
 .rw[aLy B] at f;exact f _ (t d.to)
 rw[aLx B] at f
 have k:∀{h:AH} {M:List HP} (v:Int) (u:kY),[Sub M L']->xY C u a c=dT (xY C s a c) 2 [I v]->u.known=s.known->Hs G h (aE p 0 (xY C s a c)::ls dA 2 266 a c s.known::M)->(∀l,Hs G l (jE p C u::L')->Q (.tuple ⟨[I v,.bool false,I 0]⟩) l)->Dd 221 10 [] Q [(pt p 0 0),(I v)] h:=by
  intro h M v u _ O J d N;refine bW (aB (aA (aA (ay (b:=p) (o:=0) d fun h d=>N _ ?_))));have:=dZ p C u (a:=a) (c:=c) d O.symm J.symm;exact this.to
 have q:∀{h:AH},Hs G h (aE j 0 x.enc::aE p 0 (xY C s a c)::ls dA 2 266 a c s.known::L')->(∀l,Hs G l (jE p C (s.Hl C (s.cN,x.owner)).done::L')->Q (.tuple ⟨[I 0,.bool true,I 0]⟩) l)->Dd 221 11 [] Q [(pt p 0 0),(pt j 0 0)] h:=by
  intro h d N;refine bW (aS d fun U h d=>aB (aA (aA (am p d rfl (aA (am j d rfl (aJ (c:=dA (s.cN,x.owner)) rfl ?_)))))));have d:=dZ p C s (a:=a) (c:=c) d rfl rfl;refine uz hC hb d fun h d=>?_;obtain⟨a3,c3,d⟩:=kP d;refine aJ (c:=[.bool false,I 0,I 0,.bool false]) rfl (aB (aA (ay (b:=p) (o:=0) d fun h d=>N _ ?_)));exact(dZ p C (s.Hl C (s.cN,x.owner)).done (a:=a3) (c:=c3) d rfl rfl).to
 have d:Hs G h (aE j 0 x.enc::aE p 0 (xY C s a c)::ls dA 2 266 a c s.known::L'):=d.to
 refine bW (dH (fun E=>?_) (fun E=>?_))
 .subst E;refine aA (am j d rfl (dH (fun F=>?_) (fun F=>?_)))
  .rw[aLy ⟨rfl,F⟩] at f;exact bW (bY (dN (k (M:=aE j 0 x.enc::L') (s.cN/4) (s.goto (s.cN/4)) rfl rfl d.to f)))
  .rw[aLx (by rw[F];simp),aLx (by simp)] at f;exact bW (bY (bP (q d f)))
 .subst E;rw[aLx (by simp),aLy rfl] at f;exact bY (dN (k (M:=aE j 0 x.enc::L') nx (s.goto nx) rfl rfl d.to f))
def pT (g:Int) (x:Int×Int):Bool:=decide (g= -1\/x.1=g)
theorem j5 {p q:Nat} {g:Int}:aA3 G (.func (.func 284) #[] #[pt p 0 0]) (sp [aE p 0 [.func (.func 282) #[] #[pt q 0 0]],aE q 0 [I g]]) (pT g):=by
 intro x h L Q a f;have a:=a.Bn;have c:∀{h:AH} {M:List HP} {b:Bool},[Sub M L]->b=pT g x->Hs G h (aE p 0 [.func (.func 282) #[] #[pt q 0 0]]::aE q 0 [I g]::M)->Q (.bool b) h:=by
  intro h M b _ e a;show Q _ _;rw[e];exact f _ (Hs.yC a.to)
 refine qN rfl (cW (dL a fun r h a=>am p a rfl (aA (am r a rfl ?_))));refine qN rfl (cW (am q a rfl (bG (aT (fun d=>?_) (fun d=>am q a rfl (bG ?_))))));exact c (M:=aE r 0 (dA x)::L) (by unfold pT;rw[decide_eq_true (.inl d)]) a.to;exact c (M:=aE r 0 (dA x)::L) (by unfold pT;exact decide_eq_decide.2 (by omega)) a.to
theorem ag {f:Value} {A:HP} {p:Int×Int->Bool} (P:aA3 G f A p) {a:Option Addr} {c:Nat} {l:List (Int×Int)} (hb:l.length<=1000) (d:Hs G h (A::ls dA 2 266 a c l::L))
  (F:∀O,Hs G O (A::ls dA 2 266 a c (l.filter fun x=> !p x)::L)->Q (.slice a (l.filter fun x=> !p x).length c) O):Cl Pr K 283 [.slice a l.length c,f] h Q:=by
 refine cW (Wj P hb d fun h d=>?_)
 rcases Kc (p:=p) (l:=l) (i:=0) with⟨B,r⟩|⟨j,x,B,r,T,U⟩
 .rw[B];have W:l.filter (fun x=> !p x)=l:=List.filter_eq_self.2 fun x hx=>by rw[r x hx];rfl
  rw[W] at F
  exact bG (aad (F _ d))
 rw[B]
 have Z:=(List.getElem?_eq_some_iff.1 r).1
 refine bG (aaa (bW (aac ?_)))
 have loop:∀(k i:Nat) (m:List (Int×Int)) (h:AH),i+k=l.length->m.length<i->m=(l.take i).filter (fun x=> !p x)->∀t:List (Int×Int),(m++t).length=i->Hs G h (A::ls dA 2 266 a c (m++t++l.drop i)::L)->
   Dd 283 2 [] Q [(.slice a l.length c),f,(I m.length),(I i)] h:=by
  intro k
  induction k with
  |zero=>
   intro i m h X hm u t q d
   have v:i=l.length:=by omega
   refine bW (bH (aI (aaa (bW ?_))))
   rw[v,List.take_length] at u
   rw[v,List.drop_length,List.append_nil] at d
   have d:Hs G h (dI 2 266 a c ((m++t).length,eL dA (m++t))::A::L):=d.lJ
   have H:(m++t).length=l.length:=by omega
   rw[<-H]
   refine aI9 (n:=(m++t).length) (i:=m.length) (e:=266) (cs:=eL dA (m++t)) (by decide) aDv (by omega) d fun h d=>?_
   have:=F h
   rw[<-u] at this
   refine this ?_
   rw[ft,List.take_left] at d
   exact d.lJ
  |succ k R=>
   intro i m h X hm u t q d
   obtain⟨y,J,E⟩:=lK (l:=l) (i:=i) (by omega)
   have g:(m++t++l.drop i).length=l.length:=by rw[List.length_append,q,List.length_drop];omega
   have N:(m++t++l.drop i)[i]?=some y:=by rw[List.getElem?_append_right (by omega),q,Nat.sub_self,E];rfl
   have w:l.take (i+1)=l.take i++[y]:=by rw[List.take_add_one,J];rfl
   refine bW (bH (aI (aad (bW ?_))))
   rw[<-g]
   refine jM (l:=m++t++l.drop i) (a:=a) (c:=c) (enc:=dA) (e:=266) d (by decide) (by omega) (by rw[Int.toNat_natCast];exact N) (bN d fun S h d=>ax d fun h d=>an S d (l:=dA y) rfl rfl ?_)
   refine P y h _ _ (d.front A) fun h d=>bY (dY (dH (fun D=>?_) (fun D=>?_)))
   .refine bW (aac ?_);have:=R (i+1) m h (by omega) (by omega) (by rw[w,List.filter_append,<-u];simp[D]) (t++[y]) (by simp at q ⊢;omega);rw[g];refine this ?_;rw[show m++(t++[y])++l.drop (i+1)=m++t++l.drop i by rw[E];simp];exact d.to
   .refine bW (an S d (l:=dA y) rfl rfl ?_);refine Q3 (l:=m++t++l.drop i) (a:=a) (c:=c) (enc:=dA) (e:=266) (y:=y) d (by decide) (by omega) (by omega) fun h d=>?_;cases t with
    |nil=>simp at q;omega
    |cons z t=>
     refine aac (aac ?_)
     have:=R (i+1) (m++[y]) h (by omega) (by simp;omega) (by rw[w,List.filter_append,<-u];simp[D]) (t++[y]) (by simp at q ⊢;omega)
     rw[List.length_append] at this
     rw[g]
     refine this ?_
     have V:(m++z::t++l.drop i).set ((m.length:Int)).toNat y=m++[y]++(t++[y])++l.drop (i+1):=by
      rw[Int.toNat_natCast,E,List.append_assoc,List.set_append_right _ _ (Nat.le_refl _),Nat.sub_self];simp
     rw[<-V]
     exact d.to
 have:=loop (l.length - (j+1)) (j+1) (l.take j) h (by omega) (by rw[List.length_take];omega) ?_ [x] ?_ ?_
 .rw[List.length_take,Nat.min_eq_left (by omega)] at this;rw[Nat.zero_add];exact this
 .rw[List.take_add_one,r,List.filter_append];rw[List.filter_eq_self.2 fun y J=>by rw[U y J];rfl];simp[T]
 .simp;omega
 .rw[show l.take j++[x]++l.drop (j+1)=l by
   obtain⟨Y,ex⟩:=List.getElem?_eq_some_iff.1 r;rw[<-ex,List.append_assoc,List.singleton_append,<-List.drop_eq_getElem_cons Y,List.take_append_drop]]
  exact d
end
section
set_option maxRecDepth 100000
variable {G:Bg} {h:AH} {L L':List HP} {Q:Value->AH->Prop} {C:bQ}
theorem Z7 {p:Nat} {s:kY} {g:Int} (hb:s.known.length<=100) (d:Hs G h L) [m:Has (jE p C) L s L']
  (e:∀n v,Hs G v (jE p C (s.drop C g).1::L')->Q (.tuple ⟨[I n,I (s.drop C g).2]⟩) v):Cl Pr K 223 [pt p 0 0,I g] h Q:=by
 obtain⟨a,c,d⟩:=kP (m.of d)
 unfold kY.drop at e
 have j:∀{h:AH} {M:List HP},[Sub M L']->Hs G h (aE p 0 (xY C s a c)::ls dA 2 266 a c s.known::M)->Hs G h (jE p C s::L'):=fun d=>(dZ p C s (a:=a) (c:=c) d rfl rfl).to
 refine cW (dL d fun q h d=>cK (bP (bW (aS d fun r h d=>am q d rfl (aI (aT (fun w=>?_) (fun w=>?_)))))))
 .rw[aLy (.inl w)] at e;exact e _ _ (j (M:=aE q 0 [I g]::L') d.to)
 refine am q d rfl (aB (aA (am p d rfl (dV (aT (fun y=>?_) (fun y=>?_))))))
 .rw[aLy (.inr y)] at e;exact e _ _ (j (M:=aE q 0 [I g]::L') d.to)
 rw[aab] at e
 dsimp only at e
 refine bW (bN d fun p1 h d=>ax (b:=p1) d fun h d=>aB (aA (am p d rfl (bH (aB (aA (am p d rfl ?_)))))))
 have d:=d.bL (aE p1 0 [.func (.func 282) #[] #[pt q 0 0]]) (aE q 0 [I g])
 have d:=d.yC
 have d:=d.bL (sp [aE p1 0 [.func (.func 282) #[] #[pt q 0 0]],aE q 0 [I g]]) (ls dA 2 266 a c s.known)
 refine ag (j5 (p:=p1) (q:=q) (g:=g)) (by omega) d fun h d=>?_
 have d:=d.Bn
 refine aB (aA (ay (b:=p) (o:=0) d fun h d=>aS d fun B h d=>aB (aA (aA (am p d rfl ?_)))))
 have A:s.known.filter (fun x=> !pT g x)=s.known.filter (fun x=> !decide (g= -1\/x.1=g)):=rfl
 have tail:∀{h:AH} {M:List HP} (st:Bool),[Sub M L']->Hs G h (aE p 0 [.bool s.pC,I s.cN,I s.at',.bool st,I C.entries,I C.bM,.slice a (s.known.filter fun x=> !pT g x).length c]::ls dA 2 266 a c (s.known.filter fun x=> !pT g x)::M)->
   st=(s.tN||(s.pC&&decide (g= -1\/s.cN=g)))->∀n:Int,Q (.tuple ⟨[I n,I 0]⟩) h:=by
  intro h M st _ d u n
  refine e n h ?_
  rw[<-u]
  have:=dZ p C {s with known:=s.known.filter fun x=> !pT g x,tN:=st} (a:=a) (c:=c) d rfl rfl
  exact(show Hs G h (jE p C {s with known:=s.known.filter (fun x=> !decide (g= -1\/x.1=g)),tN:=st}::M) from this).to
 refine dH (fun k=>?_) (fun k=>?_)
 .refine am p1 d rfl (aB (aA (aA (am p d rfl ?_))));refine qN rfl (cW (am q d rfl (bG ?_)));have go:∀{b:Bool},b=decide (g= -1\/s.cN=g)->Br (.bool b) (Dd 223 3 [] Q [(pt p 0 0),(I s.known.length)] h) (bA (lT (pt p 0 0)) fun v26=>bA (fZ 6 v26) fun v27=>bA (ld1 h v27) fun v28=>bA (kS v28) fun v29=>bA (sY .sub (I s.known.length) v29) fun v30=>Q (.tuple ⟨[v30,(I 0)]⟩) h):=by
   intro b f;have t:=List.length_filter_le (fun x=> !pT g x) s.known;refine dH (fun l=>?_) (fun l=>?_);refine bW (aB (aA (aA (ay (b:=p) (o:=0) d fun h d=>aB (aA (am p d rfl (bH (yO (by omega) ?_))))))));refine tail (M:=aE p1 0 [.func (.func 282) #[] #[pt q 0 0]]::aE q 0 [I g]::L') true (d.sg (b:=p) (o:=0) (c:=[.bool s.pC,I s.cN,I s.at',.bool true,I C.entries,I C.bM,.slice a (s.known.filter fun x=> !pT g x).length c]) rfl).to ?_ _;rw[<-f,l,k];simp;refine aB (aA (am p d rfl (bH (yO (by omega) ?_))));refine tail (M:=aE p1 0 [.func (.func 282) #[] #[pt q 0 0]]::aE q 0 [I g]::L') s.tN (d.sg (b:=p) (o:=0) (c:=[.bool s.pC,I s.cN,I s.at',.bool s.tN,I C.entries,I C.bM,.slice a (s.known.filter fun x=> !pT g x).length c]) rfl).to ?_ _;rw[<-f,l,k];simp
  refine aT (fun z=>go (by rw[decide_eq_true (.inl z)])) (fun z=>am q d rfl (bG (go (decide_eq_decide.2 (by omega)))))
 .have t:=List.length_filter_le (fun x=> !pT g x) s.known;refine aB (aA (am p d rfl (bH (yO (by omega) ?_))));refine tail (M:=aE p1 0 [.func (.func 282) #[] #[pt q 0 0]]::aE q 0 [I g]::L') s.tN (d.sg (b:=p) (o:=0) (c:=[.bool s.pC,I s.cN,I s.at',.bool s.tN,I C.entries,I C.bM,.slice a (s.known.filter fun x=> !pT g x).length c]) rfl).to ?_ _;rw[k];simp
theorem Y0 {p:Nat} {s:kY} (d:Hs G h L) [m:Has (jE p C) L s L'] (j:∀g a f,Hs G f (jE p C s::L')->Q (.tuple ⟨[g,a,.bool s.pC]⟩) f):Cl Pr K 61 [pt p 0 0] h Q:=by
 obtain⟨a,c,d⟩:=kP (m.of d);refine cW (cK (bP (aB (aA (aA (am p d rfl (bY (dY (dH (fun e=>?_) (fun e=>?_))))))))));refine aS d fun r h d=>aB (aA (aA (am p d rfl (aB (aA (aA (am p d rfl ?_)))))));have:=j (I s.cN) (I s.at') h (dZ p C s (a:=a) (c:=c) d rfl rfl).to;rw[e] at this;exact this;have:=j (I 0) (I 0) h (dZ p C s (a:=a) (c:=c) d rfl rfl);rw[e] at this;exact this
def Bs (q:Nat) (l:List (Int×Int)):HP:=qV fun x:Option Addr×Nat=>sp [aE q 0 [.slice x.1 l.length x.2],ls dA 2 266 x.1 x.2 l]
theorem Po {p:Nat} {s:kY} (hb:s.known.length<=100) (d:Hs G h L) [m:Has (jE p C) L s L'] (j:∀q g,Hs G g (Bs q s.known::jE p C s::L')->Q (.func (.func 109) #[] #[pt q 0 0]) g):Cl Pr K 54 [pt p 0 0] h Q:=by
 obtain⟨a,c,d⟩:=kP (m.of d);refine cW (bN d fun q h d=>Kh (dN (bW (aB (aA (am p d rfl (Ec (a:=a) (c:=c) (l:=s.known) hb d fun e f h d=>ax (b:=q) d fun h d=>j q _ ?_)))))));have d:=dZ p C s (a:=a) (c:=c) (d.bL (aE p 0 (xY C s a c)) (ls dA 2 266 a c s.known)) rfl rfl;have d:=d.bL (aE q 0 [.slice e s.known.length f]) (ls dA 2 266 e f s.known);exact Hs.oZ (A:=fun x:Option Addr×Nat=>sp [aE q 0 [.slice x.1 s.known.length x.2],ls dA 2 266 x.1 x.2 s.known]) (e,f) d.yC
theorem eu {q:Nat} {l:List (Int×Int)} (hb:l.length<=1000):cf Pr K G 109 [] [pt q 0 0] (Bs q l) (l.map dA):=by
 intro k J y L h Q d E t u;obtain⟨⟨a,c⟩,d⟩:=d.rS;have d:=d.Bn;have g:∀{h:AH} {M:List HP},Hs G h (aE q 0 [.slice a l.length c]::ls dA 2 266 a c l::M)->Hs G h (Bs q l::M):=fun d=>Hs.oZ (A:=fun x:Option Addr×Nat=>sp [aE q 0 [.slice x.1 l.length x.2],ls dA 2 266 x.1 x.2 l]) (a,c) d.yC;refine cW (am q d rfl (bH ?_));have loop:∀(f i:Nat) (h:AH),i+f=l.length->Hs G h (aE q 0 [.slice a l.length c]::ls dA 2 266 a c l::k ((l.drop i).map dA)::L)->Dd 109 1 [] Q [y,(.slice a l.length c),(I l.length),(I i)] h:=by
  intro f;induction f with
  |zero=>
   intro i h z d;rw[List.drop_of_length_le (by omega)] at d;exact bW (aI (aaa (t _ _ (g d))))
  |succ f F=>
   intro i h z d;obtain⟨x,D,w⟩:=lK (l:=l) (i:=i) (by omega);rw[w,List.map_cons] at d;refine bW (aI (aad (bW (jM (l:=l) (a:=a) (c:=c) (enc:=dA) (e:=266) d (by decide) (by omega) (by rw[Int.toNat_natCast];exact D) (bN d fun n h d=>ax d fun h d=>aA (am n d rfl (aA (am n d rfl ?_))))))));refine(E _ _ h _ (d.front (k (dA x::((l.drop (i+1)).map dA))))).mono fun v r B=>?_;rcases B with⟨rfl,j⟩|⟨rfl,j⟩;exact bY (bP (bW (aac (F (i+1) r (by omega) j.to))));exact bY (dN (u _ _ (g j.to)))
 exact loop l.length 0 h (by omega) (by rw[List.drop_zero];exact d)
end
section
instance:Fx aQ.enc 9:=⟨fun _=>rfl,fun _=>rfl⟩
set_option maxRecDepth 100000
variable {G:Bg} {h:AH} {L L':List HP} {Q:Value->AH->Prop} {C:bQ}
abbrev mZ (a:Option Addr) (c:Nat) (l:List aQ):HP:=ls aQ.enc 9 162 a c l
def oC (C:bQ) (p:Nat) (l:List aQ):HP:=qV fun x:Option Addr×Nat=>sp [aE p 0 [I C.depth,.slice x.1 l.length x.2],mZ x.1 x.2 l]
theorem yQ {p:Nat} {l:List aQ} (b:Hs G h (oC C p l::L)):∃a c,Hs G h (aE p 0 [I C.depth,.slice a l.length c]::mZ a c l::L):=by
 obtain⟨⟨a,c⟩,b⟩:=b.rS;exact⟨a,c,b.Bn⟩
theorem nS {p:Nat} {l:List aQ} {a:Option Addr} {c:Nat} (b:Hs G h (aE p 0 [I C.depth,.slice a l.length c]::mZ a c l::L)):Hs G h (oC C p l::L):=
 Hs.oZ (A:=fun x:Option Addr×Nat=>sp [aE p 0 [I C.depth,.slice x.1 l.length x.2],mZ x.1 x.2 l]) (a,c) b.yC
theorem qe (hC:C.Ok) (a:Hs G h L) (d:∀p b,Hs G b (oC C p []::L)->Q (.tuple ⟨[pt p 0 0,I 0]⟩) b):Cl Pr K 97 [I C.depth] h Q:=by
 have f:1<=C.depth/\C.depth<=16:=hC.2.2.2.2.1;refine cW (aI (aaa (iM (aaa (aJ (c:=[I C.depth,.slice none 0 0]) rfl (dL a fun p h a=>d _ _ ?_))))));have a:=(jB (enc:=aQ.enc) (W:=9) (e:=162) a).lJ;exact nS a
theorem xC {a:Option Addr} {c:Nat} {l:List aQ} (hb:l.length<=2^30) (g:Hs G h L) [m:Has (mZ a c) L l L']
  (f:∀b c' d,Hs G d (mZ b c' l::mZ a c l::L')->Q (.slice b l.length c') d):Cl Pr K 123 [.slice a l.length c] h Q:=
 cW (vW (e:=162) (show Hs G h (dI 9 162 a c (l.length,eL aQ.enc l)::L') from m.of g) (by omega) f)
theorem en {p:Nat} {l:List aQ} (g:1<=C.depth/\C.depth<=16) (hb:l.length<=1000) (d:Hs G h L) [m:Has (oC C p) L l L'] (f:∀e,Hs G e (oC C p l::L')->Q (I (C.depth - l.length)) e):Cl Pr K 291 [pt p 0 0] h Q:=by
 obtain⟨a,c,d⟩:=yQ (m.of d);refine cW (cK (bP (aS d fun r h d=>aB (aA (am p d rfl (aB (aA (am p d rfl (bH (yO (by omega) (f _ ?_)))))))))));exact nS (a:=a) (c:=c) d.to
theorem aBm {p:Nat} {l:List aQ} {n:aQ} {a2:Option Addr} {c2:Nat} (k:1<=C.depth/\C.depth<=16) (hb:(l.length:Int)<C.depth) (d:Hs G h L) [m:Has (oC C p) L l L'] {M:List HP} [m2:dX (mZ a2 c2 [n]) L' M] (q:∀j,Hs G j (oC C p (l++[n])::M)->Q (I 0) j):
  Cl Pr K 231 [pt p 0 0,.slice a2 1 c2] h Q:=by
 have d:Hs G h (oC C p l::mZ a2 c2 [n]::M):=(m.of d).perm (m2.perm.cons _)
 refine cW (cK (bP (bW (bH (en (C:=C) (p:=p) (l:=l) k (by omega) d fun h d=>iM (aaa ?_))))))
 obtain⟨a,c,d⟩:=yQ d
 refine bW (aB (aA (am p d rfl ?_)))
 refine kL (enc:=aQ.enc) (W:=9) (e:=162) (a:=a) (c:=c) (l:=l) (a2:=a2) (c2:=c2) (l2:=[n]) d (by simp;omega) fun f g h d=>?_
 refine aB (aA (ay (b:=p) (o:=0) d fun h d=>q _ ?_))
 have d:Hs G h (aE p 0 [I C.depth,.slice f (l++[n]).length g]::mZ f g (l++[n])::M):=(d.sg (b:=p) (o:=0) (c:=[I C.depth,.slice f (l++[n]).length g]) rfl).to
 exact nS d
theorem Dw {p:Nat} {l:List aQ} {w:Int} (hb:l.length<=1000) (g:Hs G h L) [m:Has (oC C p) L l L']
  (h0:l=[]->∀u,Hs G u (oC C p l::L')->Q (.tuple ⟨[.agg ⟨aQ.zero.enc⟩,I 12]⟩) u)
  (U:l≠[]->∀u,Hs G u (oC C p (l.eraseIdx (w % (l.length:Int)).toNat)::L')->Q (.tuple ⟨[.agg ⟨(l.getD (w % (l.length:Int)).toNat aQ.zero).enc⟩,I 0]⟩) u):Cl Pr K 214 [pt p 0 0,I w] h Q:=by
 obtain⟨a,c,g⟩:=yQ (m.of g)
 refine cW (bN (cs:=aQ.zero.enc) g fun j h g=>cK (bP (bW (aB (aA (am p g rfl (bH (bG (aT (fun H=>?_) (fun H=>?_))))))))))
 .have E:l=[]:=List.eq_nil_of_length_eq_zero (by omega);refine aJ (c:=aQ.zero.enc) rfl (ax (b:=j) g fun h g=>an j g (l:=aQ.zero.enc) rfl rfl (h0 E _ (nS (a:=a) (c:=c) g.to)))
 have E:l≠[]:=fun e=>by rw[e] at H;simp at H
 have V:0<l.length:=List.length_pos_iff.2 E
 refine bW (aB (aA (am p g rfl (bH (aEb (by omega) ?_)))))
 obtain⟨k,r,α⟩:∃k:Nat,(k:Int)=w % (l.length:Int)/\k<l.length:=by
  have B:=Int.emod_nonneg w (b:=(l.length:Int)) (by omega);have S:=Int.emod_lt_of_pos w (b:=(l.length:Int)) (by omega);exact⟨(w % (l.length:Int)).toNat,by omega,by omega⟩
 rw[<-r,Int.toNat_natCast] at U
 have v:∀(M:List HP) (h:AH) (q:Nat),[Sub M L']->Hs G h (aE q 0 aQ.zero.enc::aE j 0 aQ.zero.enc::aE p 0 [I C.depth,.slice a l.length c]::mZ a c l::M)->Dd 214 5 [] Q [(pt p 0 0),(pt j 0 0),(I k),(pt q 0 0),(.slice none 0 0),(.slice a l.length c),(I l.length),(I 0)] h:=by
  intro M h q _ g;have loop:∀(f i:Nat) (b:Option Addr) (d:Nat) (x:aQ) (h:AH),i+f=l.length->x=(if i<=k then aQ.zero else l.getD k aQ.zero)->
    Hs G h (mZ b d ((l.take i).eraseIdx k)::aE q 0 x.enc::aE j 0 aQ.zero.enc::aE p 0 [I C.depth,.slice a l.length c]::mZ a c l::M)->
    Dd 214 5 [] Q [(pt p 0 0),(pt j 0 0),(I k),(pt q 0 0),(.slice b ((l.take i).eraseIdx k).length d),(.slice a l.length c),(I l.length),(I i)] h:=by
   intro f
   induction f with
   |zero=>
    intro i b d x h hi F g
    have N:i=l.length:=by omega
    rw[aab] at F
    subst N
    rw[List.take_length] at g ⊢
    refine bW (aI (aaa (bW (aB (aA (ay (b:=p) (o:=0) g fun h g=>an q g (l:=x.enc) rfl rfl (ax (b:=j) g fun h g=>an j g (l:=x.enc) rfl rfl ?_)))))))
    rw[F]
    refine U E h ?_
    have g:Hs G h (aE p 0 [I C.depth,.slice b (l.eraseIdx k).length d]::mZ b d (l.eraseIdx k)::M):=(g.sg (b:=p) (o:=0) (c:=[I C.depth,.slice b (l.eraseIdx k).length d]) rfl).to
    exact(nS g).to
   |succ f X=>
    intro i b d x h hi F g
    obtain⟨y,O,hd⟩:=lK (l:=l) (i:=i) (by omega)
    have A:l.take (i+1)=l.take i++[y]:=by rw[List.take_add_one,O];rfl
    have hle:((l.take i).eraseIdx k).length<=l.length:=by
     have:=List.length_eraseIdx_le (l.take i) k;rw[List.length_take] at this;omega
    refine bW (aI (aad (bW (jM (l:=l) (a:=a) (c:=c) (enc:=aQ.enc) (e:=162) g.tail (by decide) (by omega) (by rw[Int.toNat_natCast];exact O) (bN g fun P h g=>ax (b:=P) g fun h g=>bG (aT (fun T=>?_) (fun T=>?_)))))))
    .have J:i=k:=by omega
     refine bW (an P g (l:=y.enc) rfl rfl (ax (b:=q) g fun h g=>aac ?_))
     have z:(l.take i).length=i:=by rw[List.length_take];omega
     have B:(l.take (i+1)).eraseIdx k=(l.take i).eraseIdx k:=by
      have S:(l.take i).eraseIdx k=l.take i:=List.eraseIdx_of_length_le (by omega);rw[A,List.eraseIdx_append_of_length_le (by omega),z,show k - i=0 by omega,S];simp
     have:=X (i+1) b d y h (by omega) (by rw[aab,<-J,List.getD_eq_getElem?_getD,O];rfl)
     rw[B] at this
     exact this g.to
    .refine bW (an P g (l:=y.enc) rfl rfl (aJ (c:=y.enc) rfl (dC (W:=9) (n:=1) (c:=1) g rfl rfl rfl fun R h g=>?_)));refine kL (enc:=aQ.enc) (W:=9) (e:=162) (a:=b) (c:=d) (l:=(l.take i).eraseIdx k) (a2:=some R) (c2:=1) (l2:=[y]) (mR g) (by simp;omega) fun Y Z h g=>aac ?_;have B:(l.take (i+1)).eraseIdx k=(l.take i).eraseIdx k++[y]:=by
      rw[A];by_cases z:k<i;rw[List.eraseIdx_append_of_lt_length (by rw[List.length_take];omega)];rw[List.eraseIdx_of_length_le (by simp;omega),List.eraseIdx_of_length_le (by rw[List.length_take];omega)]
     have:=X (i+1) Y Z x h (by omega) (by rw[F];by_cases e:i<=k;rw[aLy e,aae];rw[aLx e,aab])
     rw[B] at this
     exact this g.to
  have:=loop l.length 0 none 0 aQ.zero h (by omega) (by simp) (by simpa using jB (enc:=aQ.enc) (W:=9) (e:=162) g);simpa using this
 by_cases t:w.tmod (l.length:Int)<0
 .refine aI (bJ t (bW (aB (aA (am p g rfl (bH ?_))))));have e:w.tmod (l.length:Int)+(l.length:Int)=(k:Int):=by
   rw[r];rw[Int.tmod_eq_emod] at t ⊢;split at t;have:=Int.emod_nonneg w (b:=(l.length:Int)) (by omega);omega;rename_i D;rw[aLx D];simp
  refine aac ?_
  rw[e]
  exact bN (cs:=aQ.zero.enc) g fun q h g=>aB (aA (am p g rfl (bH (v L' h q g.to))))
 .refine aI (aH t (bW ?_));have e:w.tmod (l.length:Int)=(k:Int):=by
   rw[r];rw[Int.tmod_eq_emod] at t ⊢;split at t;rename_i D;rw[aLy D];simp;rename_i D;exfalso;have T:=Int.emod_lt_of_pos w (b:=(l.length:Int)) (by omega);have h3:=Int.emod_nonneg w (b:=(l.length:Int)) (by omega);simp at t;omega
  rw[e]
  exact bN (cs:=aQ.zero.enc) g fun q h g=>aB (aA (am p g rfl (bH (v L' h q g.to))))
theorem Y4 {p:Nat} {l:List aQ} (hb:l.length<=1000) (d:Hs G h L) [m:Has (oC C p) L l L'] (j:∀q g,Hs G g (oC C q l::oC C p l::L')->Q (pt q 0 0) g):Cl Pr K 125 [pt p 0 0] h Q:=by
 obtain⟨a,c,d⟩:=yQ (m.of d);refine cW (cK (bP (aS d fun r h d=>aB (aA (am p d rfl (aB (aA (am p d rfl (xC (a:=a) (c:=c) (l:=l) (by omega) d fun e f h d=>?_)))))))));refine aJ (c:=[I C.depth,.slice e l.length f]) rfl (xL (i:=10) (r:=r) d rfl rfl fun q h d=>bV bX (bV (aB bX) (bV (aA bX) (bV (am p d rfl iN) (j _ _ ?_)))));have d:Hs G h (aE p 0 [I C.depth,.slice a l.length c]::mZ a c l::aE q 0 [I C.depth,.slice e l.length f]::mZ e f l::L'):=d.to;have d:=nS d;exact(nS (show Hs G h (aE q 0 [I C.depth,.slice e l.length f]::mZ e f l::oC C p l::L') from d.to)).to
def jo (q:Nat) (l:List aQ):HP:=qV fun x:Option Addr×Nat=>sp [aE q 0 [.slice x.1 l.length x.2],mZ x.1 x.2 l]
theorem qm {a:Option Addr} {c:Nat} {l:List aQ} (b:Hs G h L) [m:Has (mZ a c) L l L'] (e:∀q d,Hs G d (jo q l::L')->Q (.func (.func 248) #[] #[pt q 0 0]) d):Cl Pr K 185 [.slice a l.length c] h Q:=by
 refine cW (dL (m.of b) fun q h b=>e q h ?_);exact Hs.oZ (A:=fun x:Option Addr×Nat=>sp [aE q 0 [.slice x.1 l.length x.2],mZ x.1 x.2 l]) (a,c) b.yC
theorem aId {q:Nat} {l:List aQ} (hb:l.length<=100000):cf Pr K G 248 [] [pt q 0 0] (jo q l) (l.map fun n=>[.agg ⟨n.enc⟩]):=by
 intro k J y L h Q d F u w;obtain⟨⟨a,c⟩,d⟩:=d.rS;have d:=d.Bn;have g:∀{h:AH} {M:List HP},Hs G h (aE q 0 [.slice a l.length c]::mZ a c l::M)->Hs G h (jo q l::M):=fun d=>Hs.oZ (A:=fun x:Option Addr×Nat=>sp [aE q 0 [.slice x.1 l.length x.2],mZ x.1 x.2 l]) (a,c) d.yC;refine cW (am q d rfl (bH ?_));have loop:∀(f i:Nat) (h:AH),i+f=l.length->Hs G h (aE q 0 [.slice a l.length c]::mZ a c l::k ((l.drop i).map fun n=>[.agg ⟨n.enc⟩])::L)->Dd 248 1 [] Q [y,(.slice a l.length c),(I l.length),(I i)] h:=by
  intro f;induction f with
  |zero=>
   intro i h B d;rw[List.drop_of_length_le (by omega)] at d;exact bW (aI (aaa (u _ _ (g d))))
  |succ f H=>
   intro i h B d;obtain⟨x,E,z⟩:=lK (l:=l) (i:=i) (by omega);rw[z,List.map_cons] at d;refine bW (aI (aad (bW (jM (l:=l) (a:=a) (c:=c) (enc:=aQ.enc) (e:=162) d (by decide) (by omega) (by rw[Int.toNat_natCast];exact E) (bN d fun r h d=>ax (b:=r) d fun h d=>an r d (l:=x.enc) rfl rfl ?_)))));refine(F _ _ h _ (d.front (k ([.agg ⟨x.enc⟩]::((l.drop (i+1)).map fun n=>[.agg ⟨n.enc⟩]))))).mono fun v t D=>?_;rcases D with⟨rfl,j⟩|⟨rfl,j⟩;exact bY (bP (bW (aac (H (i+1) t (by omega) j.to))));exact bY (dN (w _ _ (g j.to)))
 exact loop l.length 0 h (by omega) (by rw[List.drop_zero];exact d)
theorem la {p:Nat} {l:List aQ} (hb:l.length<=1000) (d:Hs G h L) [m:Has (oC C p) L l L'] (j:∀q e,Hs G e (jo q l::oC C p l::L')->Q (.func (.func 248) #[] #[pt q 0 0]) e):Cl Pr K 142 [pt p 0 0] h Q:=by
 obtain⟨a,c,d⟩:=yQ (m.of d);refine cW (cK (bP (aB (aA (am p d rfl (xC (a:=a) (c:=c) (l:=l) (by omega) d fun f g h d=>qm (a:=f) (c:=g) (l:=l) d fun q h d=>j q h ?_))))));have d:Hs G h (aE p 0 [I C.depth,.slice a l.length c]::mZ a c l::jo q l::L'):=d.to;exact(nS d).lJ
end
end Go.Proofs.YtmhapehobfnoiaaGreatDoor
namespace Go.Proofs.YtmhapehobfnoiaaGreatDoor
open Go Go.Ab Go.Hm Go.At Go.Mc Go.Nt
section
theorem aIj {k:Nat} (h:1<=k/\k<14):∃a,Ej k=1::a:=by
 rcases k14 h.2 with rfl|rfl|rfl|rfl|rfl|rfl|rfl|rfl|rfl|rfl|rfl|rfl|rfl|rfl;omega;all_goals exact⟨_,rfl⟩
theorem sv {C:bQ} {n:aQ} (h:uO C n=0):Rh n.kind/\0<=n.core/\n.core<C.aD:=by
 unfold uO at h;split at h;rename_i b;split at h;split at h;rename_i c;refine⟨b,?_⟩;unfold Rh at b;obtain⟨f,d⟩:=aIj (k:=n.kind.toNat) (by omega);rw[d] at c;have a:=c.1;unfold qK at a;split at a;rename_i e;exact e;cases a;cases h;cases h;cases h
theorem zj {k:Nat} (h:k<14):0<=O9 k/\O9 k<4:=by
 rcases k14 h with rfl|rfl|rfl|rfl|rfl|rfl|rfl|rfl|rfl|rfl|rfl|rfl|rfl|rfl<;>decide
theorem I7 {n:aQ} (h:Rh n.kind):gB n<4/\O9 n.kind.toNat=(gB n:Int):=by
 unfold Rh at h;have:=zj (k:=n.kind.toNat) (by omega);unfold gB;omega
theorem Lw {_α:Type} {n j:Nat} {g:Nat->Value} {v:Value} (c:j<n):dT ((List.range n).map g) j [v]=(List.range n).map fun k=>if k=j then v else g k:=by
 rw[<-qU _ _ _ (by simp;omega)];apply List.ext_getElem?;intro i;unfold cG;simp only[List.length_singleton];by_cases h:i<j;rw[List.append_assoc,List.getElem?_append_left (by simp;omega),List.getElem?_take_of_lt h,List.getElem?_map,List.getElem?_map];by_cases a:i<n;rw[List.getElem?_range a];simp;intro e;omega;omega;rw[List.append_assoc,List.getElem?_append_right (by simp;omega)];have d:min j n=j:=by omega
 simp only[List.length_take,List.length_map,List.length_range,d];by_cases b:i=j;subst b;rw[List.getElem?_append_left (by simp),Nat.sub_self,List.getElem?_map,List.getElem?_range c];simp;rw[List.getElem?_append_right (by rw[List.length_singleton];omega),List.getElem?_drop,List.length_singleton,show j+1+(i - j - 1)=i by omega,List.getElem?_map,List.getElem?_map];by_cases a:i<n;rw[List.getElem?_range a];simp[b];rw[List.getElem?_eq_none (by simp;omega)];rfl
set_option maxRecDepth 100000
variable {G:Bg} {h:AH} {L L' M:List HP} {Q:Value->AH->Prop} {C:bQ}
def lZ (C:bQ) (pl:Nat->Nat):List Value:=C.enc++(List.range 16).map fun k=>if k<4*C.aD.toNat then pt (pl k) 0 0 else .pointer none
theorem aCb {pl:Nat->Nat} {k:Nat} (a:k<16):(lZ C pl)[7+k]?=some (if k<4*C.aD.toNat then pt (pl k) 0 0 else .pointer none):=by
 unfold lZ;rw[List.getElem?_append_right (by simp[bQ.enc])];simp[bQ.enc,List.getElem?_range a]
abbrev oE (C:bQ) (pl:Nat->Nat) (F:fV) (k:Nat):HP:=oC C (pl k) (F (k/4) (k % 4))
def lI (C:bQ) (f:Nat) (F:fV):HP:=qV fun pl:Nat->Nat=>sp [aE f 0 (lZ C pl),dE (4*C.aD.toNat) (oE C pl F)]
theorem zT {f:Nat} {F:fV} (a:Hs G h (lI C f F::L)):∃pl,Hs G h (aE f 0 (lZ C pl)::dE (4*C.aD.toNat) (oE C pl F)::L):=by
 obtain⟨pl,a⟩:=a.rS;exact⟨pl,a.Bn⟩
theorem mB {f:Nat} {F:fV} {pl:Nat->Nat} (a:Hs G h (aE f 0 (lZ C pl)::dE (4*C.aD.toNat) (oE C pl F)::L)):Hs G h (lI C f F::L):=
 Hs.oZ (A:=fun pl:Nat->Nat=>sp [aE f 0 (lZ C pl),dE (4*C.aD.toNat) (oE C pl F)]) pl a.yC
def Zc (C:bQ) (pl:Nat->Nat) (F:fV) (k:Nat):HP:=sp (((List.range (4*C.aD.toNat)).erase k).map (oE C pl F))
theorem D8 {F:fV} {pl:Nat->Nat} {k:Nat} (a:k<4*C.aD.toNat) (b:Hs G h (dE (4*C.aD.toNat) (oE C pl F)::L)):Hs G h (oC C (pl k) (F (k/4) (k % 4))::Zc C pl F k::L):=b.kH k a
theorem sc {F:fV} {k j:Nat} {l:List aQ}:(F.set (k/4) (k % 4) l) (j/4) (j % 4)=if j=k then l else F (j/4) (j % 4):=by
 unfold fV.set;by_cases e:j=k;subst e;simp;rw[aLx e,aab]
theorem K2 {F:fV} {pl:Nat->Nat} {k:Nat} {l:List aQ} (b:k<4*C.aD.toNat) (c:Hs G h (oC C (pl k) l::Zc C pl F k::L)):Hs G h (dE (4*C.aD.toNat) (oE C pl (F.set (k/4) (k % 4) l))::L):=by
 refine Hs.aD4 (i:=k) (f:=oE C pl F) (g:=oE C pl (F.set (k/4) (k % 4) l)) b (fun j a=>?_) ?_;unfold oE;rw[sc,aLx a];have e:oE C pl (F.set (k/4) (k % 4) l) k=oC C (pl k) l:=by unfold oE;rw[sc,aLy rfl]
 rw[e];exact c
theorem wV {f:Nat} {pl:Nat->Nat} {x y:Int} (hC:C.Ok) (c:Hs G h L) [m:Has (aE f 0) L (lZ C pl) L'] (a:Q (if(0<=x/\x<C.aD)/\(0<=y/\y<4) then pt (pl (x.toNat*4+y.toNat)) 0 0 else .pointer none) h):Cl Pr K 141 [pt f 0 0,I x,I y] h Q:=by
 have k:=hC.1;refine cW (cK (bP (aI (aT (fun d=>?_) (fun d=>aB (aA (aA (am f c rfl (dV (aT (fun e=>?_) (fun e=>aI (aT (fun g=>?_) (fun g=>dV (aT (fun j=>?_) (fun j=>?_)))))))))))))));rw[aab] at a;exact a;rw[aab] at a;exact a;rw[aab] at a;exact a;rw[aab] at a;exact a;rw[aae] at a;refine aB (aA (fI (by omega) (by omega) (fI (by omega) (by omega) (am f c (v:=pt (pl (x.toNat*4+y.toNat)) 0 0) ?_ a))));rw[show 0+7+x.toNat*4+y.toNat*1=7+(x.toNat*4+y.toNat) by omega,aCb (by omega),aae]
theorem za {f:Nat} {F:fV} {pl:Nat->Nat} {x:Nat} {y:Nat} (hC:C.Ok) (n:∀c w,(F c w).length<=1000) (r:(x:Int)<C.aD) (t:y<4) (a:Hs G h (aE f 0 (lZ C pl)::dE (4*C.aD.toNat) (oE C pl F)::L)) (o:∀j,Hs G j (aE f 0 (lZ C pl)::dE (4*C.aD.toNat) (oE C pl F)::L)->Q (I (C.depth - (F x y).length)) j):Cl Pr K 230 [pt f 0 0,I x,I y] h Q:=by
 have q:=hC.1;have d:1<=C.depth/\C.depth<=16:=hC.2.2.2.2.1;refine cW (wV (C:=C) (pl:=pl) hC a ?_);rw[aae];have b:x*4+y<4*C.aD.toNat:=by omega
 have a:=D8 b a.lJ;rw[show((x:Int)).toNat*4+((y:Int)).toNat=x*4+y by omega];refine en (C:=C) (l:=F ((x*4+y)/4) ((x*4+y) % 4)) d (n _ _) a fun h a=>?_;have g:(x*4+y)/4=x/\(x*4+y) % 4=y:=by omega
 have:=o h;rw[g.1,g.2];refine this ?_;have a:=K2 b a;have k:F.set ((x*4+y)/4) ((x*4+y) % 4) (F ((x*4+y)/4) ((x*4+y) % 4))=F:=by
  funext c w;unfold fV.set;split;rename_i e;rw[e.1,e.2];rfl
 rw[k] at a;exact a.lJ
def uX (F a:fV):List Value:=(List.range 16).map fun k=>I (((a (k/4) (k % 4)).length:Int) - (F (k/4) (k % 4)).length)
theorem ym {F a:fV} {x y:Nat} (c:x<4) (d:y<4):(uX F a)[x*4+y]?=some (I (((a x y).length:Int) - (F x y).length)):=by
 unfold uX;rw[List.getElem?_map,List.getElem?_range (by omega)];have b:(x*4+y)/4=x/\(x*4+y) % 4=y:=by omega
 simp[b.1,b.2]
theorem u0 {F a:fV} {n:aQ} {x y:Nat} (d:n.core.toNat=x) (g:gB n=y) (f:x<4) (j:y<4):dT (uX F a) (x*4+y) [I (((a x y).length:Int) - (F x y).length+1)]=uX F (a.put n):=by
 unfold uX;rw[Lw (_α:=Nat) (by omega)];refine List.map_congr_left fun k c=>?_;have c:=List.mem_range.1 c;unfold fV.put;rw[d,g];by_cases e:k=x*4+y;subst e;have b:(x*4+y)/4=x/\(x*4+y) % 4=y:=by omega
 rw[aLy rfl,b.1,b.2];unfold fV.set;rw[aLy ⟨rfl,rfl⟩,List.length_append];congr 1;simp;omega;rw[aLx e];unfold fV.set;rw[aab]
end
section
set_option maxRecDepth 100000
variable {G:Bg} {h:AH} {L L' M:List HP} {Q:Value->AH->Prop} {C:bQ}
theorem nb {d:Int} {F:fV} {n:aQ} {l:List aQ}:fV.H4 d F (n::l)=if((F n.core.toNat (gB n)).length:Int)<d then fV.H4 d (F.put n) l else none:=rfl
theorem jy {n:aQ} {l:List aQ}:bT C (n::l)=if uO C n≠0 then uO C n else bT C l:=rfl
theorem Xd {l:List aQ} (h:bT C l=0):∀n∈l,uO C n=0:=by
 induction l with
 |nil=>intro n a;cases a
 |cons x l c=>
  unfold bT at h;split at h;rename_i b;exact absurd h b;rename_i b;intro n a;rcases List.mem_cons.1 a with rfl|a;omega;exact c h n a
theorem yy {f:Nat} {F:fV} {n:aQ} {a2:Option Addr} {c2:Nat} (hC:C.Ok) (k:uO C n=0) (o:((F n.core.toNat (gB n)).length:Int)<C.depth) {pl:Nat->Nat} {Q:Value->AH->Prop}
  (a:Hs G h (mZ a2 c2 [n]::aE f 0 (lZ C pl)::dE (4*C.aD.toNat) (oE C pl F)::L)) (g:∀e,Hs G e (aE f 0 (lZ C pl)::dE (4*C.aD.toNat) (oE C pl (F.put n))::L)->Q (I 0) e):
  Cl Pr K 231 [pt (pl (n.core.toNat*4+gB n)) 0 0,.slice a2 1 c2] h Q:=by
 obtain⟨d,j⟩:=sv k
 have r:=(I7 d).1
 have q:=hC.1
 have b:n.core.toNat*4+gB n<4*C.aD.toNat:=by omega
 have c:(n.core.toNat*4+gB n)/4=n.core.toNat/\(n.core.toNat*4+gB n) % 4=gB n:=by omega
 have a:=D8 b (a.front (dE (4*C.aD.toNat) (oE C pl F)))
 rw[c.1,c.2] at a
 refine aBm (C:=C) (l:=F n.core.toNat (gB n)) (n:=n) hC.2.2.2.2.1 o a fun h a=>?_
 have a:Hs G h (oC C (pl (n.core.toNat*4+gB n)) (F n.core.toNat (gB n)++[n])::Zc C pl F (n.core.toNat*4+gB n)::aE f 0 (lZ C pl)::L):=a.to
 have a:=K2 b a
 rw[c.1,c.2] at a
 exact g _ a.lJ
theorem Ex {f:Nat} {F:fV} {l:List aQ} {a:Option Addr} {c:Nat} (hC:C.Ok) (hd:∀c w,(F c w).length<=500) (hl:l.length<=100) (T:Ob G 2 wP) (ε:Ob G 0 eY) (d:Hs G h L) [m:Has (lI C f) L F L'] [m2:dX (mZ a c l) L' M]
  (S:∀h',Hs G h' (lI C f (fV.send C F l).1::mZ a c l::M)->Q (I (fV.send C F l).2) h'):Cl Pr K 170 [pt f 0 0,.slice a l.length c] h Q:=by
 have hc:=hC.1
 have ι:1<=C.depth/\C.depth<=16:=hC.2.2.2.2.1
 obtain⟨pl,d⟩:=zT (m.of d)
 have d:Hs G h (mZ a c l::aE f 0 (lZ C pl)::dE (4*C.aD.toNat) (oE C pl F)::M):=d.perm (((m2.perm.cons _).cons _).trans (((List.Perm.swap _ _ _).cons _).trans (List.Perm.swap _ _ _)))
 unfold fV.send at S
 have P:∀{h:AH} {L2:List HP} {J:fV},[Sub L2 M]->Hs G h (mZ a c l::aE f 0 (lZ C pl)::dE (4*C.aD.toNat) (oE C pl J)::L2)->Hs G h (lI C f J::mZ a c l::M):=by
  intro h L2 J _ d;have d:=d.bL (aE f 0 (lZ C pl)) (dE (4*C.aD.toNat) (oE C pl J));exact(mB d).to
 have α:∀(k i:Nat) (j Fe:fV) (L2:List HP) (h:AH),[Sub L2 M]->i+k=l.length->bT C l=0->fV.H4 C.depth F l=some Fe->fV.H4 C.depth j (l.drop i)=some Fe->Hs G h (mZ a c l::aE f 0 (lZ C pl)::dE (4*C.aD.toNat) (oE C pl j)::L2)->
   Dd 170 10 [] Q [(pt f 0 0),(.slice a l.length c),(I l.length),(I i)] h:=by
  intro k
  induction k with
  |zero=>
   intro i j Fe L2 h _ hi q g O d
   rw[List.drop_of_length_le (by omega)] at O
   cases O
   rw[aab,g] at S
   exact bW (aI (aaa (S _ (P d))))
  |succ k ih=>
   intro i j Fe L2 h _ hi q g O d
   obtain⟨x,W,v⟩:=lK (l:=l) (i:=i) (by omega)
   have E:=Xd q x (List.mem_of_getElem? W)
   obtain⟨z,δ⟩:=sv E
   obtain⟨t,U⟩:=I7 z
   rw[v] at O
   unfold fV.H4 at O
   split at O
   .rename_i V;refine bW (aI (aad (bW (jM (l:=l) (a:=a) (c:=c) (enc:=aQ.enc) (e:=162) d (by decide) (by omega) (by rw[Int.toNat_natCast];exact W) (bN d fun u h d=>ax (b:=u) d fun h d=>aA (am u d rfl (N.fp T d ?_)))))));rw[aLy z,U];refine aG rfl (aG rfl (aX (aaa (bW (aS d fun r1 h0 B=>aA (am u B rfl (wV (C:=C) (pl:=pl) hC B ?_)))))));rw[aae];refine an u B (l:=x.enc) rfl rfl (aJ (c:=x.enc) rfl (gM (r:=r1) (i:=6) (N:=9) (D:=[]) B rfl rfl rfl rfl rfl fun a2 h d=>?_));have d:=mR d;have d:Hs G h (mZ (some a2) 1 [x]::aE f 0 (lZ C pl)::dE (4*C.aD.toNat) (oE C pl j)::mZ a c l::L2):=d.to;rw[show(x.core.toNat*4+((gB x:Nat):Int).toNat)=x.core.toNat*4+gB x by omega];refine yy (f:=f) hC E V d fun h d=>bV (an u B (l:=x.enc) rfl rfl (oN ?_)) (aX (aaa (bW (aac (ih (i+1) (j.put x) Fe L2 h (by omega) q g O d.to)))));simp[aQ.enc,nP]
   .cases O
 have Z:∀(k i p:Nat) (j:fV) (L2:List HP) (h:AH),[Sub L2 M]->i+k=l.length->bT C l=0->fV.H4 C.depth F l=fV.H4 C.depth j (l.drop i)->(∀c w,(j c w).length<=500+i)->Hs G h (aE p 0 (uX F j)::mZ a c l::aE f 0 (lZ C pl)::dE (4*C.aD.toNat) (oE C pl F)::L2)->
   Dd 170 6 [] Q [(pt f 0 0),(.slice a l.length c),(pt p 0 0),(.slice a l.length c),(I l.length),(I i)] h:=by
  intro k
  induction k with
  |zero=>
   intro i p j L2 h _ hi q g A d
   rw[List.drop_of_length_le (by omega)] at g
   refine bW (aI (aaa (bW (bH ?_))))
   exact α l.length 0 F j L2 h (by omega) q g (by rw[List.drop_zero];exact g) d.tail
  |succ k ih=>
   intro i p j L2 h _ hi q g A d
   obtain⟨x,W,v⟩:=lK (l:=l) (i:=i) (by omega)
   have E:=Xd q x (List.mem_of_getElem? W)
   obtain⟨z,δ⟩:=sv E
   obtain⟨t,U⟩:=I7 z
   obtain⟨y,hy⟩:∃y:Nat,x.core=(y:Int):=⟨x.core.toNat,by omega⟩
   have X:x.core.toNat=y:=by omega
   rw[v,nb,X] at g
   have η:=A y (gB x)
   have θ:=hd y (gB x)
   refine bW (aI (aad (bW (jM (l:=l) (a:=a) (c:=c) (enc:=aQ.enc) (e:=162) d (by decide) (by omega) (by rw[Int.toNat_natCast];exact W) (bN d fun u h d=>ax (b:=u) d fun h d=>aA (am u d rfl (N.fp T d ?_)))))))
   rw[aLy z,U]
   have H:x.enc[0+1]?=some (I (y:Int)):=by rw[<-hy];rfl
   have R:∀{J:fV},(uX F J)[0+y*4+gB x*1]?=some (I (((J y (gB x)).length:Int) - (F y (gB x)).length)):=by
    intro J;rw[show 0+y*4+gB x*1=y*4+gB x by omega];exact ym (by omega) t
   have γ:dT (uX F j) (0+y*4+gB x*1) [I (((j y (gB x)).length:Int) - (F y (gB x)).length+1)]=uX F (j.put x):=by
    rw[show 0+y*4+gB x*1=y*4+gB x by omega];exact u0 X rfl (by omega) t
   have β:(uX F j).length=16:=by simp[uX]
   refine aG rfl (aG rfl (aX (aaa (bW (aS d fun r1 h d=>aA (am u d H (gF (by omega) (gF t (am p d R (aac (gF (by omega) (gF t ?_))))))))))))
   refine bK (b:=p) (o:=0) d rfl (by rw[β];exact Nat.ble_eq_true_of_le (by omega)) rfl (by rw[β];rfl) fun h d=>?_
   rw[γ] at d
   refine aS d fun r2 h d=>aA (am u d H (gF (by omega) (gF t (am p d R (aA (am u d H ?_))))))
   have ζ:((j.put x) y (gB x)).length=(j y (gB x)).length+1:=by unfold fV.put fV.set;rw[X,aLy ⟨rfl,rfl⟩,List.length_append];rfl
   have d:=d.bL (aE f 0 (lZ C pl)) (dE (4*C.aD.toNat) (oE C pl F))
   refine za (C:=C) (F:=F) (x:=y) (y:=gB x) hC (fun c w=>by have:=hd c w;omega) (by omega) t d fun h d=>iM ?_
   refine bV (aA bX) (bV (am u d H iN) (bV iN (bV (gF (by omega) bX) (bV (gF t bX) (bV (am p d R iN) ?_)))))
   rw[ζ]
   refine aT (fun h1=>?_) (fun h1=>?_)
   .rw[aab] at g;rw[aab,g] at S;refine S _ ?_;have d:=d.bL (aE f 0 (lZ C pl)) (dE (4*C.aD.toNat) (oE C pl F));exact(mB d).to
   .rw[aae] at g;refine bW (aac (ih (i+1) p (j.put x) L2 h (by omega) q g (fun c w=>?_) d.to));have h2:((j.put x) c w).length<=(j c w).length+1:=by
     unfold fV.put fV.set;split;rename_i e;rw[e.1,e.2];simp;omega
    have:=A c w
    omega
 have Y:∀(k i:Nat) (h:AH),i+k=l.length->bT C l=bT C (l.drop i)->Hs G h (mZ a c l::aE f 0 (lZ C pl)::dE (4*C.aD.toNat) (oE C pl F)::M)->
   Dd 170 2 [] Q [(pt f 0 0),(.slice a l.length c),(.slice a l.length c),(I l.length),(I i)] h:=by
  intro k
  induction k with
  |zero=>
   intro i h hi g d
   rw[List.drop_of_length_le (by omega)] at g
   refine bW (aI (aaa (bW (bN d fun p h d=>bH ?_))))
   refine Z l.length 0 p F M h (by omega) g (by rw[List.drop_zero]) (fun c w=>by have:=hd c w;omega) ?_
   have e:uX F F=[I 0,I 0,I 0,I 0,I 0,I 0,I 0,I 0,I 0,I 0,I 0,I 0,I 0,I 0,I 0,I 0]:=by
    unfold uX;simp only[Int.sub_self];rfl
   rw[e];exact d
  |succ k ih=>
   intro i h hi g d
   obtain⟨x,W,v⟩:=lK (l:=l) (i:=i) (by omega)
   rw[v,jy] at g
   refine bW (aI (aad (bW (jM (l:=l) (a:=a) (c:=c) (enc:=aQ.enc) (e:=162) d (by decide) (by omega) (by rw[Int.toNat_natCast];exact W) (bN d fun u h d=>ax (b:=u) d fun h d=>aS d fun r1 h d=>aB (aA (an f d (l:=C.enc) rfl rfl (an u d (l:=x.enc) rfl rfl ?_))))))))
   refine N.aFd (C:=C) (n:=x) T ε d fun h d=>aX (aT (fun h1=>?_) (fun h1=>?_))
   .rw[aLy h1] at g;rw[aLy (by rw[g];exact h1),g] at S;exact S _ (P (L2:=aE u 0 x.enc::M) d.to)
   .rw[aLx h1] at g;exact bW (aac (ih (i+1) h (by omega) g d.to))
 refine cW (cK (bP (bW (bH ?_))))
 exact Y l.length 0 h (by omega) (by rw[List.drop_zero]) d
end
end Go.Proofs.YtmhapehobfnoiaaGreatDoor
end
namespace Go.Proofs.YtmhapehobfnoiaaGreatDoor
open Go Go.Ab Go.Hm Go.At Go.Mc Go.Nt
section
theorem vN {k:Value->Prop} (a:k (.bool true)):bA (No .eql (.pointer none) (.pointer none)) k:=⟨_,rfl,a⟩
set_option maxRecDepth 100000
attribute [local irreducible] bA Br ld1 rT sH A2 lH tD kC Nk fZ lT oX oU nW kS xH sY Ts Pe No M5 Qt Ns Ei Gm Sb jV nR qR iK copyV gZ vD Tg Tm E6 jX Kb Pq Tl mL pD uW vP Cl xS Tb qW qT jA eX cS bZ
variable {G:Bg} {h:AH} {L L' M:List HP} {Q:Value->AH->Prop} {C:bQ}
theorem Zw {f:Nat} {F:fV} {x y w:Int} (hC:C.Ok) (v:∀c w,(F c w).length<=500) (a:Hs G h L) [m:Has (lI C f) L F L']
  (d:∀g,Hs G g (lI C f (fV.take C F x y w).1::L')->Q (.tuple ⟨[.agg ⟨(fV.take C F x y w).2.1.enc⟩,I (fV.take C F x y w).2.2]⟩) g):Cl Pr K 168 [pt f 0 0,I x,I y,I w] h Q:=by
 have A:=hC.1
 obtain⟨pl,a⟩:=zT (m.of a)
 unfold fV.take at d
 refine cW (bN (cs:=aQ.zero.enc) a fun p h a=>cK (bP (bW (wV (C:=C) (pl:=pl) hC a ?_))))
 by_cases q:(0<=x/\x<C.aD)/\(0<=y/\y<4)
 .rw[aab] at d;rw[aLy q];refine cK (bP ?_);have j:x.toNat*4+y.toNat<4*C.aD.toNat:=by omega
  have k:(x.toNat*4+y.toNat)/4=x.toNat/\(x.toNat*4+y.toNat) % 4=y.toNat:=by omega
  have a:=D8 j (a.front (dE (4*C.aD.toNat) (oE C pl F)))
  rw[k.1,k.2] at a
  have fin:∀{h:AH} (l:List aQ) (n:aQ) (e:Int),Hs G h (oC C (pl (x.toNat*4+y.toNat)) l::Zc C pl F (x.toNat*4+y.toNat)::aE p 0 aQ.zero.enc::aE f 0 (lZ C pl)::L')->(∀g,Hs G g (lI C f (F.set x.toNat y.toNat l)::L')->Q (.tuple ⟨[.agg ⟨n.enc⟩,I e]⟩) g)->
    bA (oX 0 (.tuple ⟨[.agg ⟨n.enc⟩,I e]⟩)) fun v3=>bA (oX 1 (.tuple ⟨[.agg ⟨n.enc⟩,I e]⟩)) fun v4=>bA (sH h 9 (pt p 0 0) v3) fun t=>bA (rT t 9 (pt p 0 0)) fun v6=>Q (.tuple ⟨[v6,v4]⟩) t:=by
   intro h l n e a z
   refine aG rfl (aG rfl (ax (b:=p) a fun h a=>an p a (l:=n.enc) rfl rfl (z _ ?_)))
   have a:=K2 j (a.bL (oC C (pl (x.toNat*4+y.toNat)) l) (Zc C pl F (x.toNat*4+y.toNat)))
   rw[k.1,k.2] at a
   have a:=a.bL (aE f 0 (lZ C pl)) (dE (4*C.aD.toNat) (oE C pl (F.set x.toNat y.toNat l)))
   exact(mB a).to
  dsimp only at d
  refine Dw (C:=C) (l:=F x.toNat y.toNat) (by have:=v x.toNat y.toNat;omega) a (fun r h a=>?_) (fun r h a=>?_)
  .rw[aLy r] at d;refine fin _ _ _ a fun h a=>d _ ?_;have u:F.set x.toNat y.toNat (F x.toNat y.toNat)=F:=by
    funext c w;unfold fV.set;split;rename_i e;rw[e.1,e.2];rfl
   rw[u] at a
   exact a
  .rw[aLx r] at d;exact fin _ _ _ a d
 .rw[aLy q] at d;rw[aLx q];refine vN (dN (aJ (c:=aQ.zero.enc) rfl ?_));refine ax (b:=p) a fun h a=>?_;refine an p a (l:=aQ.zero.enc) rfl rfl (d _ ?_);exact mB a.tail
theorem x6 {f:Nat} {F:fV} {x y:Nat} (hC:C.Ok) (k:∀c w,(F c w).length<=500) (r:(x:Int)<C.aD) (t:y<4) (a:Hs G h L) [m:Has (lI C f) L F L']
  (n:∀q g,Hs G g (jo q (F x y)::lI C f F::L')->Q (.func (.func 248) #[] #[pt q 0 0]) g):Cl Pr K 89 [pt f 0 0,I x,I y] h Q:=by
 have o:=hC.1
 obtain⟨pl,a⟩:=zT (m.of a)
 refine cW (wV (C:=C) (pl:=pl) hC a ?_)
 rw[aae]
 have b:x*4+y<4*C.aD.toNat:=by omega
 have d:(x*4+y)/4=x/\(x*4+y) % 4=y:=by omega
 have a:=D8 b a.lJ
 rw[show((x:Int)).toNat*4+((y:Int)).toNat=x*4+y by omega]
 rw[d.1,d.2] at a
 refine la (C:=C) (l:=F x y) (by have:=k x y;omega) a fun q h a=>n q _ ?_
 have a:=K2 b (a.bL (oC C (pl (x*4+y)) (F x y)) (Zc C pl F (x*4+y)))
 rw[d.1,d.2] at a
 have j:F.set x y (F x y)=F:=by
  funext c w;unfold fV.set;split;rename_i e;rw[e.1,e.2];rfl
 rw[j] at a
 have a:=a.bL (aE f 0 (lZ C pl)) (dE (4*C.aD.toNat) (oE C pl F))
 exact(mB a).to
def sZ (C:bQ) (pl:Nat->Nat) (n:Nat):List Value:=C.enc++(List.range 16).map fun k=>if k<n then pt (pl k) 0 0 else .pointer none
theorem Up {pl:Nat->Nat} {n p:Nat} (d:n<16):dT (sZ C pl n) (7+n) [pt p 0 0]=sZ C (cB pl n p) (n+1):=by
 unfold sZ;have e:∀(A B:List Value) (j:Nat) (v:List Value),j+v.length<=B.length->dT (A++B) (A.length+j) v=A++dT B j v:=by
  intro A;induction A with
  |nil=>intro B j v c;simp
  |cons x A f=>intro B j v c;rw[List.cons_append,List.length_cons,show A.length+1+j=(A.length+j)+1 by omega];show x::dT (A++B) (A.length+j) v=_;rw[f B j v c];rfl
 rw[show 7+n=C.enc.length+n by simp[bQ.enc],e _ _ _ _ (by simp;omega),Lw (_α:=Nat) d];congr 1;refine List.map_congr_left fun k _=>?_;by_cases a:k=n;subst a;rw[aLy rfl,aae,gP];rw[aLx a];by_cases b:k<n;rw[aLy b,aae,xA a];rw[aLx b,aab]
theorem Dn {pl:Nat->Nat} {n:Nat}:(sZ C pl n).length=23:=by unfold sZ;simp[bQ.enc]
theorem dk {n p:Nat} {pl:Nat->Nat} {F:fV} (a:Hs G h (oC C p (F (n/4) (n % 4))::dE n (oE C pl F)::L)):Hs G h (dE (n+1) (oE C (cB pl n p) F)::L):=by
 refine Hs.U6 ?_;have b:oE C (cB pl n p) F n=oC C p (F (n/4) (n % 4)):=by unfold oE;rw[gP]
 rw[b];have a:=a.lJ;have a:=rY (g:=oE C (cB pl n p) F) (fun j c=>by unfold oE;rw[xA (by omega)]) a;exact a.lJ
theorem my (hC:C.Ok) (g:Ob G 0 eY) (a:Hs G h L) (t:∀f r,Hs G r (lI C f (fun _ _=>[])::L)->Q (.tuple ⟨[pt f 0 0,I 0]⟩) r):Cl Pr K 42 [.agg ⟨C.enc⟩] h Q:=by
 have v:=hC.1;refine cW (dL a fun p h a=>an p a (l:=C.enc) rfl rfl (nD g a fun h a=>?_));rw[aLy hC];refine aX (aaa (bW (an p a (l:=C.enc) rfl rfl (aJ (c:=sZ C (fun _=>0) 0) rfl (dL a fun f h a=>aA (am p a rfl ?_))))));have inner:∀(k w x:Nat) (pl:Nat->Nat) (h:AH),w+k=4->(x:Int)<C.aD->(∀(pl:Nat->Nat) (h:AH),Hs G h (aE f 0 (sZ C pl (4*x+4))::aE p 0 C.enc::dE (4*x+4) (oE C pl fun _ _=>[])::L)->Dd 42 6 [] Q [(pt p 0 0),(pt f 0 0),(I C.aD),(I x)] h)->
   Hs G h (aE f 0 (sZ C pl (4*x+w))::aE p 0 C.enc::dE (4*x+w) (oE C pl fun _ _=>[])::L)->Dd 42 4 [] Q [(pt p 0 0),(pt f 0 0),(I x),(I C.aD),(I x),(I w)] h:=by
  intro k
  induction k with
  |zero=>
   intro w x pl h u d j a
   have:w=4:=by omega
   subst this
   exact bW (aI (aaa (j pl h a)))
  |succ k n=>
   intro w x pl h u d j a
   refine bW (aI (aad (bW (aA (am p a rfl (qe hC a fun q h a=>aG rfl (aG rfl (aX (aaa (bW (aB (aA (gF (by omega) (gF (by omega) ?_))))))))))))))
   refine bK (b:=f) (o:=0) a rfl (by rw[Dn];exact Nat.ble_eq_true_of_le (by simp;omega)) rfl (by rw[Dn];rfl) fun h a=>aac ?_
   rw[show 0+7+x*4+w*1=7+(4*x+w) by omega,Up (by omega)] at a
   refine n (w+1) x (cB pl (4*x+w) q) h (by omega) d j ?_
   have a:=a.bL (oC C q []) (dE (4*x+w) (oE C pl fun _ _=>[]))
   have a:=dk (F:=fun _ _=>[]) a
   exact(show Hs G h (aE f 0 (sZ C (cB pl (4*x+w) q) (4*x+(w+1)))::aE p 0 C.enc::dE (4*x+(w+1)) (oE C (cB pl (4*x+w) q) fun _ _=>[])::L) from a.to)
 have outer:∀(k x:Nat) (pl:Nat->Nat) (h:AH),x+k=C.aD.toNat->Hs G h (aE f 0 (sZ C pl (4*x))::aE p 0 C.enc::dE (4*x) (oE C pl fun _ _=>[])::L)->Dd 42 2 [] Q [(pt p 0 0),(pt f 0 0),(I C.aD),(I x)] h:=by
  intro k;induction k with
  |zero=>
   intro x pl h d a;refine bW (aI (aaa (t f h ?_)));have e:x=C.aD.toNat:=by omega
   subst e;have a:Hs G h (aE f 0 (lZ C pl)::aE p 0 C.enc::dE (4*C.aD.toNat) (oE C pl fun _ _=>[])::L):=a;exact(mB (show Hs G h (aE f 0 (lZ C pl)::dE (4*C.aD.toNat) (oE C pl fun _ _=>[])::L) from a.to))
  |succ k n=>
   intro x pl h d a;refine bW (aI (aad (bW ?_)));refine inner 4 0 x pl h (by omega) (by omega) (fun pl h a=>bW (aac (n (x+1) pl h (by omega) ?_))) a;exact(show Hs G h (aE f 0 (sZ C pl (4*(x+1)))::aE p 0 C.enc::dE (4*(x+1)) (oE C pl fun _ _=>[])::L) from by rw[show 4*(x+1)=4*x+4 by omega];exact a)
 have a:=Hs.T5 (f:=oE C (fun _=>0) fun _ _=>[]) a;exact outer C.aD.toNat 0 (fun _=>0) h (by omega) (show Hs G h (aE f 0 (sZ C (fun _=>0) 0)::aE p 0 C.enc::dE 0 (oE C (fun _=>0) fun _ _=>[])::L) from a.to)
end
section
theorem aF5 {n a i:Nat} {l m:List Value} {k:Value->Prop} (e:i<n) (c:i*a+a<=l.length) (d:(l.drop (i*a)).take a=m) (b:k (.agg ⟨m⟩)):bA (Pq n a (.agg ⟨l⟩) (I i)) k:=
 ⟨.agg ⟨m⟩,by unfold Pq;simp only;rw[aLy ⟨by omega,by omega,by simpa using c⟩];simp[d],b⟩
set_option maxRecDepth 100000
attribute [local irreducible] bA Br ld1 rT sH A2 lH tD kC Nk fZ lT oX oU nW kS xH sY Ts Pe No M5 Qt Ns Ei Gm Sb jV nR qR iK copyV gZ vD Tg Tm E6 jX Kb Pq Tl mL pD uW vP Cl xS Tb qW qT jA eX cS bZ
variable {G:Bg} {h:AH} {L L' M:List HP} {Q:Value->AH->Prop} {C:bQ}
def lC (C:bQ) (pl:Nat->Nat):List Value:=(List.range 16).map fun k=>if k<4*C.aD.toNat then pt (pl k) 0 0 else .pointer none
theorem Ch {pl:Nat->Nat}:(lC C pl).length=16:=by simp[lC]
theorem xn {pl:Nat->Nat} {x w:Nat} (b:x<4) (a:w<4):(((lC C pl).drop (x*4)).take 4)[w]?=some (if x*4+w<4*C.aD.toNat then pt (pl (x*4+w)) 0 0 else .pointer none):=by
 rw[List.getElem?_take_of_lt a,List.getElem?_drop];unfold lC;rw[List.getElem?_map,List.getElem?_range (by omega)];rfl
theorem po (a:Q (.pointer none) h):Cl Pr K 125 [.pointer none] h Q:=
 cW (vN (dN a))
theorem l8 {pl:Nat->Nat} {n j:Nat} (d:n<=j) (a:j<16):dT (sZ C pl n) (7+j) [.pointer none]=sZ C pl n:=by
 unfold sZ;have e:∀(A B:List Value) (j:Nat) (v:List Value),j+v.length<=B.length->dT (A++B) (A.length+j) v=A++dT B j v:=by
  intro A;induction A with
  |nil=>intro B j v a;simp
  |cons x A c=>intro B j v a;rw[List.cons_append,List.length_cons,show A.length+1+j=(A.length+j)+1 by omega];show x::dT (A++B) (A.length+j) v=_;rw[c B j v a];rfl
 rw[show 7+j=C.enc.length+j by simp[bQ.enc],e _ _ _ _ (by simp;omega),Lw (_α:=Nat) a];congr 1;refine List.map_congr_left fun k _=>?_;by_cases b:k=j;rw[aLy b,aab];rw[aLx b]
theorem J1 {f:Nat} {F:fV} (hC:C.Ok) (S:∀c w,(F c w).length<=500) (a:Hs G h L) [m:Has (lI C f) L F L'] (U:∀g J,Hs G J (lI C g F::lI C f F::L')->Q (pt g 0 0) J):Cl Pr K 74 [pt f 0 0] h Q:=by
 have Y:=hC.1;obtain⟨pl,a⟩:=zT (m.of a);refine cW (cK (bP (bW (aB (aA (an f a (l:=C.enc) rfl rfl (aJ (c:=sZ C (fun _=>0) 0) rfl (dL a fun g h a=>aB (aA (an f a (l:=lC C pl) ?_ Ch ?_))))))))));unfold lZ lC;rw[show 0+7=C.enc.length by simp[bQ.enc],List.drop_left,List.take_of_length_le (by simp)];let N:=4*C.aD.toNat;have inner:∀(k w x:Nat) (d:Nat->Nat) (n:List HP) (h:AH),[Sub n L']->w+k=4->x<4->(∀(d:Nat->Nat) (h:AH),Hs G h (aE g 0 (sZ C d (min N (4*x+4)))::dE (min N (4*x+4)) (oE C d F)::aE f 0 (lZ C pl)::dE N (oE C pl F)::n)->Dd 74 6 [] Q [(pt g 0 0),(.agg ⟨lC C pl⟩),(I x)] h)->
   Hs G h (aE g 0 (sZ C d (min N (4*x+w)))::dE (min N (4*x+w)) (oE C d F)::aE f 0 (lZ C pl)::dE N (oE C pl F)::n)->Dd 74 4 [] Q [(pt g 0 0),(I x),(.agg ⟨lC C pl⟩),(I x),(.agg ⟨((lC C pl).drop (x*4)).take 4⟩),(I w)] h:=by
  intro k
  induction k with
  |zero=>
   intro w x d n h _ V y D a
   have:w=4:=by omega
   subst this
   exact bW (aI (aaa (D d h a)))
  |succ k H=>
   intro w x d n h _ V y D a
   refine bW (aI (aad (bW (dr (by omega) (xn y (by omega)) (aS a fun r h a=>?_)))))
   have fin:∀(v:Value) (u:Nat->Nat) (h:AH),eK v=true->Cv v [v]->dT (sZ C d (min N (4*x+w))) (7+(4*x+w)) [v]=sZ C u (min N (4*x+(w+1)))->
     Hs G h (aE g 0 (sZ C d (min N (4*x+w)))::dE (min N (4*x+(w+1))) (oE C u F)::aE f 0 (lZ C pl)::dE N (oE C pl F)::n)->
     bA (lT (pt g 0 0)) fun v4=>bA (fZ 7 v4) fun v5=>bA (nR 4 4 v5 (I x)) fun v6=>bA (nR 4 1 v6 (I w)) fun W=>bA (sH h 1 W v) fun P=>(nP (pt g 0 0) (pt g 0 0)=true)/\((nP (I x) (I x)=true)/\((nP (I w) (I w)=true)/\((bA (lT (pt g 0 0)) fun v9=>nP v9 v4=true)/\((bA (fZ 7 v4) fun v10=>nP v10 v5=true)/\((bA (nR 4 4 v5 (I x)) fun v11=>nP v11 v6=true)/\(bA (sY .add (I w) (I 1)) fun v12=>Dd 74 4 [] Q [(pt g 0 0),(I x),(.agg ⟨lC C pl⟩),(I x),(.agg ⟨((lC C pl).drop (x*4)).take 4⟩),v12] P)))))):=by
    intro v u h E R T a
    refine aB (aA (gF y (gF (by omega) ?_)))
    refine bK (b:=g) (o:=0) a rfl (by rw[Dn];exact Nat.ble_eq_true_of_le (by simp;omega)) (by simp[E]) (by rw[Dn];rfl) fun h a=>?_
    rw[show 0+7+x*4+w*1=7+(4*x+w) by omega,T] at a
    refine bV bX (bV iN (bV iN (bV (aB bX) (bV (aA bX) (bV (gF y bX) (aac ?_))))))
    exact H (w+1) x u n h (by omega) y D a
   by_cases A:x*4+w<4*C.aD.toNat
   .rw[aLy A];have X:dE N (oE C pl F)=dE (4*C.aD.toNat) (oE C pl F):=rfl;have a:=D8 A (a.front (dE N (oE C pl F)));refine Y4 (C:=C) (l:=F ((x*4+w)/4) ((x*4+w) % 4)) (by have:=S ((x*4+w)/4) ((x*4+w) % 4);omega) a fun q h a=>?_;have a:=K2 A (a.bL (oC C (pl (x*4+w)) (F ((x*4+w)/4) ((x*4+w) % 4))) (Zc C pl F (x*4+w)));have O:F.set ((x*4+w)/4) ((x*4+w) % 4) (F ((x*4+w)/4) ((x*4+w) % 4))=F:=by
     funext c w;unfold fV.set;split;rename_i e;rw[e.1,e.2];rfl
    rw[O] at a
    have j:min N (4*x+w)=4*x+w:=by show min (4*C.aD.toNat) _=_;omega
    have t:min N (4*x+(w+1))=4*x+w+1:=by show min (4*C.aD.toNat) _=_;omega
    rw[j] at a
    rw[show x*4+w=4*x+w by omega] at a
    have a:=a.bL (oC C q (F ((4*x+w)/4) ((4*x+w) % 4))) (dE (4*x+w) (oE C d F))
    have a:=dk a
    refine fin (pt q 0 0) (cB d (4*x+w) q) h rfl inferInstance ?_ ?_
    .rw[j,t,Up (by omega)]
    .rw[j,t];exact a.to
   .rw[aLx A];have j:min N (4*x+w)=N:=by show min (4*C.aD.toNat) _=4*C.aD.toNat;omega
    have t:min N (4*x+(w+1))=N:=by show min (4*C.aD.toNat) _=4*C.aD.toNat;omega
    refine po (fin (.pointer none) d h rfl inferInstance ?_ ?_)
    .rw[j,t];exact l8 (by show 4*C.aD.toNat<=_;omega) (by omega)
    .rw[j] at a;rw[j,t];exact a.to
 have outer:∀(k x:Nat) (d:Nat->Nat) (n:List HP) (h:AH),[Sub n L']->x+k=4->Hs G h (aE g 0 (sZ C d (min N (4*x)))::dE (min N (4*x)) (oE C d F)::aE f 0 (lZ C pl)::dE N (oE C pl F)::n)->Dd 74 2 [] Q [(pt g 0 0),(.agg ⟨lC C pl⟩),(I x)] h:=by
  intro k;induction k with
  |zero=>
   intro x d n h _ y a;refine bW (aI (aaa (U g h ?_)));have j:min N (4*x)=N:=by show min (4*C.aD.toNat) _=4*C.aD.toNat;omega
   rw[j] at a;have a:Hs G h (aE g 0 (lZ C d)::dE (4*C.aD.toNat) (oE C d F)::aE f 0 (lZ C pl)::dE (4*C.aD.toNat) (oE C pl F)::n):=a;have a:=mB a;have a:=a.bL (aE f 0 (lZ C pl)) (dE (4*C.aD.toNat) (oE C pl F));have a:=mB a;exact a.to
  |succ k H=>
   intro x d n h _ y a;refine bW (aI (aad (bW (aF5 (by omega) (by rw[Ch];omega) rfl (bN a fun p h a=>?_)))));have z:(((lC C pl).drop (x*4)).take 4).length=4:=by rw[List.length_take,List.length_drop,Ch];omega
   have B:(((lC C pl).drop (x*4)).take 4).all eK=true:=by
    refine List.all_eq_true.2 fun v E=>?_;have:=List.mem_of_mem_drop (List.mem_of_mem_take E);unfold lC at this;obtain⟨k,_,rfl⟩:=List.mem_map.1 this;split<;>rfl
   refine aZ (b:=p) a rfl rfl z B fun h a=>an p a (l:=((lC C pl).drop (x*4)).take 4) (by rw[List.drop_zero];exact List.take_of_length_le (by omega)) z ?_;refine inner 4 0 x d (aE p 0 (((lC C pl).drop (x*4)).take 4)::n) h (by omega) (by omega) (fun d h a=>bW (aac (H (x+1) d (aE p 0 (((lC C pl).drop (x*4)).take 4)::n) h (by omega) (by rw[show 4*(x+1)=4*x+4 by omega];exact a)))) ?_;exact a.to
 have a:=Hs.T5 (f:=oE C (fun _=>0) F) a;refine outer 4 0 (fun _=>0) L' h (by omega) ?_;rw[show min N (4*0)=0 by omega];exact a.to
end
end Go.Proofs.YtmhapehobfnoiaaGreatDoor
section
open Go Go.Ab
attribute [local irreducible] bA Br ld1 rT sH A2 lH tD kC Nk fZ lT oX oU nW kS xH sY Ts Pe No M5 Qt Ns Ei Gm Sb jV nR qR iK copyV gZ vD Tg Tm E6 jX Kb Pq Tl mL pD uW vP Cl xS Tb qW qT jA eX cS bZ
namespace Go.Proofs.YtmhapehobfnoiaaGreatDoor
open Go Go.Ab Go.Hm Go.At Go.Is Go.Mc
section
instance:Fx Ins.enc 4:=⟨fun _=>rfl,fun _=>rfl⟩
set_option maxRecDepth 100000
variable {G:Bg} {h:AH} {L L' M:List HP} {Q:Value->AH->Prop} {s:bE} {i p:Nat}
abbrev M7 (a:Option Addr) (c:Nat) (l:List Ins):HP:=ls Ins.enc 4 76 a c l
def pP (i:Nat) (s:bE) (a:Option Addr) (c:Nat):List Value:=s.core++[I i,.slice a s.prog.length c]
def jZ (i:Nat) (p:Nat) (s:bE):HP:=qV fun x:Option Addr×Nat=>sp [aE p 0 (pP i s x.1 x.2),M7 x.1 x.2 s.prog]
theorem mX (b:Hs G h (jZ i p s::L)):∃a c,Hs G h (aE p 0 (pP i s a c)::M7 a c s.prog::L):=by
 obtain⟨⟨a,c⟩,b⟩:=b.rS;exact⟨a,c,b.Bn⟩
theorem iP (p i:Nat) (s:bE) {a:Option Addr} {c:Nat} {cs:List Value} {l:List Ins} {b L2:List HP} (f:Hs G h L) [m:Has (aE p 0) L cs b] [m2:Has (M7 a c) b l L2] (d:cs=pP i s a c) (e:l=s.prog):Hs G h (jZ i p s::L2):=by
 subst d;subst e;exact Hs.oZ (A:=fun x:Option Addr×Nat=>sp [aE p 0 (pP i s x.1 x.2),M7 x.1 x.2 s.prog]) (a,c) (Hs.pack (A:=[_,_]) (f.perm (m.perm.trans (m2.perm.cons _))))
theorem aF1 {a:Option Addr} {c:Nat} {k:Int} (b:0<=k/\k<4):(pP i s a c)[0+0+0+k.toNat*1]?=some (I (s.dF k.toNat)):=by
 have:k=0\/k=1\/k=2\/k=3:=by omega
 rcases this with rfl|rfl|rfl|rfl<;>rfl
theorem zy {a:Option Addr} {c:Nat} {k v:Int} (b:0<=k/\k<4):dT (pP i s a c) (0+0+0+k.toNat*1) [I v]=pP i (s.dJ k v) a c:=by
 have:k=0\/k=1\/k=2\/k=3:=by omega
 rcases this with rfl|rfl|rfl|rfl<;>rfl
theorem yZ {a:Option Addr} {c:Nat} {k:Int} {q:Value->Prop} (f:Hs G h L) [m:Has (aE p 0) L (pP i s a c) L'] (d:0<=k/\k<4) (e:q (I (s.dF k.toNat))):bA (lT (pt p 0 0)) fun v4=>bA (fZ 0 v4) fun v5=>bA (fZ 0 v5) fun v6=>bA (nR 4 1 v6 (I k)) fun g=>bA (ld1 h g) q:=
 aB (aA (aA (fI d.1 d.2 (am p f (aF1 d) e))))
theorem Bz {a:Option Addr} {c:Nat} {k v:Int} {q:AH->Prop} (d:Hs G h L) [m:Has (aE p 0) L (pP i s a c) L'] (e:0<=k/\k<4) (j:∀f,Hs G f (aE p 0 (pP i (s.dJ k v) a c)::L')->q f):bA (lT (pt p 0 0)) fun v4=>bA (fZ 0 v4) fun v5=>bA (fZ 0 v5) fun v6=>bA (nR 4 1 v6 (I k)) fun l=>bA (sH h 1 l (I v)) q:=by
 refine aB (aA (aA (fI e.1 e.2 ?_)));have g:(pP i s a c).length=9:=rfl;refine bK (b:=p) (o:=0) d rfl (by rw[g];exact Nat.ble_eq_true_of_le (by simp;omega)) rfl rfl fun h d=>?_;rw[zy e] at d;exact j _ d
theorem cw {a:Option Addr} {c:Nat} {x:Int} {cs:List Value} (q:0<=x) (d:cs[8]?=some (.slice a s.prog.length c)) (g:Hs G h L) [m:Has (aE p 0) L cs L'] [m2:Has (M7 a c) L' s.prog M] (f:∀n,Hs G n L->Q (.bool (Dg s.prog x)) n):Cl Pr K 145 [pt p 0 0,I x] h Q:=by
 have k:Hs G h (aE p 0 cs::M7 a c s.prog::M):=g.perm (m.perm.trans (m2.perm.cons _));unfold Dg at f;refine cW (aI (aaa (aB (aA (am p g d (bH (dV (aT (fun j=>?_) (fun j=>?_)))))))));rw[aLy j] at f;exact f _ g;rw[aLx j] at f;refine aB (aA (am p g d (W5 (l:=s.prog) (a:=a) (c:=c) (enc:=Ins.enc) (e:=76) (x:=yV s.prog x) k q ?_ rfl (bG ?_))));unfold yV;rw[List.getD_eq_getElem?_getD,List.getElem?_eq_getElem (by omega)];rfl;exact f _ g
theorem Iq {x:Int} (g:0<=x) (d:Hs G h L) [m:Has (jZ i p) L s L'] (f:∀e,Hs G e (jZ i p (s.pA x)::L')->Q (.tuple ⟨[]⟩) e):Cl Pr K 92 [pt p 0 0,I x] h Q:=by
 obtain⟨a,c,d⟩:=mX (m.of d);refine cW (aB (aA (aA (ay (b:=p) (o:=0) d fun h d=>?_))));refine cw (s:=s) (a:=a) (c:=c) g rfl d fun h d=>aB (aA (aA (ay (b:=p) (o:=0) d fun h d=>f _ ?_)));exact iP p i (s.pA x) (a:=a) (c:=c) d rfl rfl
theorem V3 {x:Ins} {a:Option Addr} {c:Nat} (d:Hs G h L) [m:Has (aE p 0) L (pP i s a c) L'] (f:∀e,Hs G e L->Q (.agg ⟨(bE.ev s i x 0 0 0).enc⟩) e):Cl Pr K 203 [pt p 0 0,.agg ⟨x.enc⟩] h Q:=by
 refine cW (dL d fun q h d=>bN d fun r h d=>aS d fun g h d=>?_);refine aB (aA (am p d rfl (aB (aA (aA (am p d rfl (aA (am q d rfl (aB (aA (aA (am p d rfl (aJ (c:=(bE.ev s i x 0 0 0).enc) rfl ?_)))))))))))));refine ax (b:=r) d fun h d=>an r d (l:=(bE.ev s i x 0 0 0).enc) rfl rfl (f _ d.to)
def aGb:Ins:=⟨0,0,0,0⟩
theorem I1 (j:s.Ok) (d:Hs G h L) [m:Has (jZ i p) L s L'] (g:∀k,Hs G k (jZ i p s::L')->Q (if s.over then .tuple ⟨[.agg ⟨aGb.enc⟩,.bool false]⟩ else .tuple ⟨[.agg ⟨(yV s.prog s.at').enc⟩,.bool true]⟩) k):Cl Pr K 202 [pt p 0 0] h Q:=by
 obtain⟨a,c,d⟩:=mX (m.of d);refine cW (bN d fun q h d=>cK (bP (aB (aA (aA (am p d rfl (cw (s:=s) (a:=a) (c:=c) j.1 rfl d fun h d=>?_)))))));rw[<-j.2.2.1];refine dH (fun f=>?_) (fun f=>?_);rw[f,aLy rfl] at g;refine aJ (c:=aGb.enc) rfl (ax (b:=q) d fun h d=>an q d (l:=aGb.enc) rfl rfl (g _ ?_));exact(iP p i s (a:=a) (c:=c) d rfl rfl).to;rw[f] at g;have r:=Rt (p:=s.prog) (a:=s.at') (by rw[<-j.2.2.1];exact f);have n:=j.1;refine aS d fun t h d=>aB (aA (am p d rfl (aB (aA (aA (am p d rfl ?_))))));refine jM (l:=s.prog) (a:=a) (c:=c) (enc:=Ins.enc) (e:=76) (x:=yV s.prog s.at') d (by decide) n ?_ ?_;unfold yV;rw[List.getD_eq_getElem?_getD,List.getElem?_eq_getElem (by omega)];rfl;refine ax (b:=q) d fun h d=>an q d (l:=(yV s.prog s.at').enc) rfl rfl (g _ ?_);exact(iP p i s (a:=a) (c:=c) d rfl rfl).to
theorem Pb {x:Int} (a:Q (.bool (M1 x)) h):Cl Pr K 205 [I x] h Q:=by
 unfold M1 at a;refine cW (bG (aT (fun b=>?_) (fun b=>bG (aT (fun c=>?_) (fun c=>bG ?_)))));rw[decide_eq_true (by omega)] at a;exact a;rw[decide_eq_true (by omega)] at a;exact a;rw[show decide (x=3\/x=4\/x=5)=decide (x=5) from decide_eq_decide.2 (by omega)] at a;exact a
theorem Vt {a:Option Addr} {c:Nat} {l:List Ins} (hb:l.length<=1000) (g:Hs G h L) [m:Has (M7 a c) L l L'] (f:∀b c' d,Hs G d (M7 b c' l::M7 a c l::L')->Q (.slice b l.length c') d):Cl Pr K 49 [.slice a l.length c] h Q:=
 cW (vW (e:=76) (show Hs G h (dI 4 76 a c (l.length,eL Ins.enc l)::L') from m.of g) (by omega) f)
theorem Yo (hb:s.prog.length<=1000) (d:Hs G h L) [m:Has (jZ i p) L s L'] (j:∀q e,Hs G e (jZ i q s::jZ i p s::L')->Q (pt q 0 0) e):Cl Pr K 75 [pt p 0 0] h Q:=by
 obtain⟨a,c,d⟩:=mX (m.of d);refine cW (cK (bP (bW (aB (an p d (l:=pP i s a c) rfl rfl (bN d fun q h d=>ax (b:=q) d fun h d=>?_))))));refine aB (aA (am p d rfl (Vt (a:=a) (c:=c) (l:=s.prog) hb d fun f g h d=>aA (ay (b:=q) (o:=0) d fun h d=>j _ _ ?_))));have d:=iP p i s (a:=a) (c:=c) (d.bL (aE p 0 (pP i s a c)) (M7 a c s.prog)) rfl rfl;exact iP q i s (a:=f) (c:=g) d rfl rfl
end
section
theorem As {s:bE} (a:s.Ok) (h:s.over=false):Fits (yV s.prog s.at') s.prog.length:=
 Ww (a.2.2.2.2 _ (W1 a.1 (Rt (by rw[<-a.2.2.1];exact h))))
set_option maxRecDepth 100000
variable {G:Bg} {h:AH} {L L' M:List HP} {Q:Value->AH->Prop} {s:bE} {i p:Nat}
theorem kW {v:Ev} {x:Int} {e f:Nat} {z:List Value} {b:Value} (r:z.length=7) (q:0<=x) (a:Hs G h (jZ i p s::aE f 0 v.enc::aE e 0 z::L)) (n:∀k,Hs G k (jZ i p (s.pA x)::L)->Q (.tuple ⟨[.agg ⟨v.enc⟩,b]⟩) k):
  Cl Pr K 92 [pt p 0 0,I x] h fun _ c=>bA (rT c 7 (pt f 0 0)) fun g=>bA (sH c 7 (pt e 0 0) g) fun d=>bA (rT d 7 (pt e 0 0)) fun j=>Q (.tuple ⟨[j,b]⟩) d:=by
 refine Iq (i:=i) (s:=s) q a fun h a=>an f a (l:=v.enc) rfl rfl (aZ (b:=e) a (by rw[r];rfl) rfl rfl rfl fun h a=>an e a (l:=v.enc) rfl rfl (n _ a.to))
theorem xi (B:s.Ok) (d:Hs G h L) [m:Has (jZ i p) L s L']
  (f:∀H,Hs G H (jZ i p (match bE.pK s i with|some r=>r.1|none=>s)::L')->Q (match bE.pK s i with|some r=> .tuple ⟨[.agg ⟨r.2.enc⟩,.bool true]⟩|none=> .tuple ⟨[.agg ⟨Gc.enc⟩,.bool false]⟩) H):Cl Pr K 163 [pt p 0 0] h Q:=by
 have d:=m.of d
 have N:=B.1
 unfold bE.pK bE.next? at f
 refine cW (bN (cs:=Gc.enc) d fun u h d=>I1 (i:=i) (s:=s) B d fun h d=>?_)
 cases hov:s.over with
 |true=>
  simp only[hov,if_true] at f ⊢
  refine aG rfl (aG rfl (bN d fun j h d=>ax (b:=j) d fun h d=>bY (dN (aJ (c:=Gc.enc) rfl ?_))))
  refine ax (b:=u) d fun h d=>an u d (l:=Gc.enc) rfl rfl (f _ d.to)
 |false=>
  have q:=As B hov
  simp only[hov,Bool.false_eq_true,if_false] at f ⊢
  generalize O:yV s.prog s.at'=x at f q
  refine aG rfl (aG rfl (bN d fun j h d=>ax (b:=j) d fun h d=>bY (bP ?_)))
  obtain⟨a,c,d⟩:=mX (d.front (jZ i p s))
  refine bW (an j d (l:=x.enc) rfl rfl (V3 (a:=a) (c:=c) (s:=s) d fun h d=>bN d fun g h d=>ax (b:=g) d fun h d=>?_))
  refine aB (aA (aA (am p d rfl (aY (by have:=B.2.1;omega) (aA (am j d rfl ?_))))))
  have d:Hs G h (aE j 0 x.enc::aE g 0 (bE.ev s i x 0 0 0).enc::aE u 0 Gc.enc::aE p 0 (pP i s a c)::M7 a c s.prog::L'):=d.to
  have e:∀{h:AH} {s':bE} {M:List HP} {v:Ev},s'.prog=s.prog->Hs G h (aE g 0 v.enc::aE u 0 Gc.enc::aE p 0 (pP i s' a c)::M7 a c s.prog::L')->Hs G h (jZ i p s'::aE g 0 v.enc::aE u 0 Gc.enc::L'):=by
   intro h s' M v D d;exact iP p i s' (a:=a) (c:=c) d rfl D.symm
  refine bG (aT (fun n=>?_) (fun n=>bW (bG (aT (fun c2=>?_) (fun c2=>bW (bG (aT (fun w=>?_) (fun w=>bW (bG (aT (fun y=>?_) (fun y=>bW (bG (aT (fun A=>?_) (fun A=>bW (bG (aT (fun t=>?_) (fun t=>?_)))))))))))))))))
  .simp only[n,if_true] at f;have z:=q.r1 (by omega);refine bW (aA (am j d rfl (aA (ay (b:=g) (o:=0) d fun h d=>aS d fun I h d=>aA (am j d rfl (aA (am g d rfl (Bz (s:=s) (a:=a) (c:=c) d z fun h d=>?_))))))));have d:=d.sg (b:=g) (o:=0) (c:=(bE.ev s i x 0 x.b 0).enc) rfl;exact kW (s:=s.dJ x.a x.b) (v:=bE.ev s i x 0 x.b 0) rfl (by omega) (e (M:=L) (s':=s.dJ x.a x.b) rfl d.to) f
  .simp only[c2,if_true] at f;have z:=q.r1 (by omega);have E:=q.r2 (by omega);have F:=q.r3 (by omega);refine bW (aS d fun I h d=>aA (am j d rfl (yZ (s:=s) (i:=i) (a:=a) (c:=c) d E (aA (am j d rfl (yZ (s:=s) (i:=i) (a:=a) (c:=c) d F (ca (aA ?_))))))));refine ay (b:=g) (o:=0) d fun h d=>aS d fun J h d=>aA (am j d rfl (aA (am g d rfl (Bz (s:=s) (a:=a) (c:=c) d z fun h d=>?_))));have d:=d.sg (b:=g) (o:=0) (c:=(bE.ev s i x 0 (wr (s.dF x.b.toNat+s.dF x.c.toNat)) 0).enc) rfl;exact kW (s:=s.dJ x.a (wr (s.dF x.b.toNat+s.dF x.c.toNat))) (v:=bE.ev s i x 0 (wr (s.dF x.b.toNat+s.dF x.c.toNat)) 0) rfl (by omega) (e (M:=L) (s':=s.dJ x.a (wr (s.dF x.b.toNat+s.dF x.c.toNat))) rfl d.to) f
  .simp only[w,if_true] at f;exact bW (kW (s:=s) (v:=bE.ev s i x 0 0 0) rfl (by omega) (e (M:=L) (s':=s) rfl d.to) f)
  .simp only[y,if_true] at f;refine bW (aA (am j d rfl (aA (ay (b:=g) (o:=0) d fun h d=>aB (aA (aA (am p d rfl (bG (aT (fun k=>?_) (fun k=>?_))))))))))
   .simp only[k,if_true] at f;refine bW (aA (am j d rfl (aB (aA (aA (ay (b:=p) (o:=0) d fun h d=>?_))))));have d:=(d.sg (b:=g) (o:=0) (c:=(bE.ev s i x 0 x.a 0).enc) rfl).sg (b:=p) (o:=0) (c:=pP i (s.xl x.a) a c) rfl;exact kW (s:=s.xl x.a) (v:=bE.ev s i x 0 x.a 0) rfl (by omega) (e (M:=L) (s':=s.xl x.a) rfl d.to) f
   .simp only[aLx k] at f;refine bW (aA (ay (b:=g) (o:=0) d fun h d=>?_));have d:=d.sg (b:=g) (o:=0) (c:=(bE.ev s i x 0 x.a 18).enc) rfl;exact kW (s:=s) (v:=bE.ev s i x 0 x.a 18) rfl (by omega) (e (M:=L) (s':=s) rfl d.to) f
  .simp only[A,if_true] at f;have D:=q.p1 (by omega);refine bW (aA (am j d rfl (aA (ay (b:=g) (o:=0) d fun h d=>aA (am j d rfl ?_)))));have d:=d.sg (b:=g) (o:=0) (c:=(bE.ev s i x 0 x.a 0).enc) rfl;exact kW (s:=s) (v:=bE.ev s i x 0 x.a 0) rfl (by omega) (e (M:=L) (s':=s) rfl d.to) f
  .simp only[t,if_true] at f;have z:=q.r1 (by omega);have D:=q.p2 (by omega);refine bW (aS d fun I h d=>aA (am j d rfl (yZ (s:=s) (i:=i) (a:=a) (c:=c) d z (aA ?_))));refine ay (b:=g) (o:=0) d fun h d=>aA (am g d rfl (bG (aT (fun k=>?_) (fun k=>?_))))
   .have k:s.dF x.a.toNat=0:=k;simp only[aLy k] at f;have d:=d.sg (b:=g) (o:=0) (c:=(bE.ev s i x 0 (s.dF x.a.toNat) 0).enc) rfl;refine bW (aA (am j d rfl ?_));exact kW (s:=s) (v:=bE.ev s i x 0 (s.dF x.a.toNat) 0) rfl (by omega) (e (M:=L) (s':=s) rfl d.to) f
   .have k:¬s.dF x.a.toNat=0:=k;simp only[aLx k] at f;have d:=d.sg (b:=g) (o:=0) (c:=(bE.ev s i x 0 (s.dF x.a.toNat) 0).enc) rfl;exact bW (kW (s:=s) (v:=bE.ev s i x 0 (s.dF x.a.toNat) 0) rfl (by omega) (e (M:=L) (s':=s) rfl d.to) f)
  .simp only[aLx n,aLx c2,aLx w,aLx y,aLx A,aLx t] at f;refine aJ (c:=Gc.enc) rfl (ax (b:=u) d fun h d=>an u d (l:=Gc.enc) rfl rfl (f _ ?_));exact(iP p i s (a:=a) (c:=c) d rfl rfl).to
end
section
def sX (a:Acc):List Value:=[I a.word,.bool a.write,.bool a.read,I a.value]
def Sf:Acc:=⟨0,false,false,0⟩
def iu:Mc.Ask:=⟨0,0,0,0,0⟩
set_option maxRecDepth 100000
variable {G:Bg} {h:AH} {L L' M:List HP} {Q:Value->AH->Prop} {s:bE} {i p:Nat}
theorem Ou (z:s.Ok) (d:Hs G h L) [m:Has (jZ i p) L s L']
  (f:∀q,Hs G q (jZ i p s::L')->Q (match bE.Iw s with|some a=> .tuple ⟨[.agg ⟨sX a⟩,.bool true]⟩|none=> .tuple ⟨[.agg ⟨sX Sf⟩,.bool false]⟩) q):Cl Pr K 166 [pt p 0 0] h Q:=by
 have d:=m.of d
 unfold bE.Iw bE.next? at f
 refine cW (bN (cs:=sX Sf) d fun g h d=>I1 (i:=i) (s:=s) z d fun h d=>?_)
 cases hov:s.over with
 |true=>
  simp only[hov,if_true] at f ⊢
  refine aG rfl (aG rfl (bN d fun j h d=>ax (b:=j) d fun h d=>bY (dN (aJ (c:=sX Sf) rfl ?_))))
  refine ax (b:=g) d fun h d=>an g d (l:=sX Sf) rfl rfl (f _ d.to)
 |false=>
  have t:=As z hov
  simp only[hov,Bool.false_eq_true,if_false] at f ⊢
  generalize F:yV s.prog s.at'=x at f t
  refine aG rfl (aG rfl (bN d fun j h d=>ax (b:=j) d fun h d=>bY (bP (aA (am j d rfl (Pb (bY (dY (dH (fun k=>?_) (fun k=>?_))))))))))
  .have k:M1 x.op=true:=k;have B:x.op=3\/x.op=4\/x.op=5:=of_decide_eq_true k;simp only[k,if_true] at f;have A:=t.r1 (by omega);have u:=t.r2 (by omega);obtain⟨a,c,d⟩:=mX (d.front (jZ i p s));have d:Hs G h (aE j 0 x.enc::aE g 0 (sX Sf)::aE p 0 (pP i s a c)::M7 a c s.prog::L'):=d.to;have fin:∀{h:AH} {M:List HP} (e:Nat) (v:Acc),[Sub M L']->Hs G h (aE e 0 (sX v)::aE g 0 (sX Sf)::aE p 0 (pP i s a c)::M7 a c s.prog::M)->(∀q,Hs G q (jZ i p s::L')->Q (.tuple ⟨[.agg ⟨sX v⟩,.bool true]⟩) q)->
     bA (rT h 4 (pt e 0 0)) fun v1=>bA (sH h 4 (pt g 0 0) v1) fun y=>bA (rT y 4 (pt g 0 0)) fun v3=>Q (.tuple ⟨[v3,.bool true]⟩) y:=by
    intro h M e v _ d E
    refine an e d (l:=sX v) rfl rfl (ax (b:=g) d fun h d=>an g d (l:=sX v) rfl rfl (E _ ?_))
    exact(iP p i s (a:=a) (c:=c) d rfl rfl).to
   refine bW (aS d fun w h d=>aA (am j d rfl (yZ (s:=s) (i:=i) (a:=a) (c:=c) d u (aJ (c:=sX ⟨s.dF x.b.toNat,false,false,0⟩) rfl ?_))))
   refine kI (r:=w) (i:=9) (n:=11) (D:=[]) (cs:=sX Sf) d rfl rfl fun e h d=>ax (b:=e) d fun h d=>aA (am j d rfl (bG (aT (fun c3=>?_) (fun c3=>bW (bG (aT (fun c5=>?_) (fun c5=>bW (bG (aT (fun c4=>?_) (fun c4=>?_))))))))))
   .rw[decide_eq_false (by omega),decide_eq_true (show x.op≠4 by omega),aLy (show x.op=3 by omega)] at f;refine bW (aA (ay (b:=e) (o:=0) d fun h d=>?_));have d:=d.sg (b:=e) (o:=0) (c:=sX ⟨s.dF x.b.toNat,false,true,0⟩) rfl;exact fin (M:=L') e ⟨s.dF x.b.toNat,false,true,0⟩ d.to f
   .rw[decide_eq_true (show x.op≠3 by omega),decide_eq_true (show x.op≠4 by omega),aLx (show ¬x.op=3 by omega)] at f;refine bW (aA (ay (b:=e) (o:=0) d fun h d=>aA (ay (b:=e) (o:=0) d fun h d=>aS d fun w h d=>aA (am j d rfl (yZ (s:=s) (i:=i) (a:=a) (c:=c) d A (aA (ay (b:=e) (o:=0) d fun h d=>?_)))))));have d:=d.sg (b:=e) (o:=0) (c:=sX ⟨s.dF x.b.toNat,true,true,s.dF x.a.toNat⟩) rfl;exact fin (M:=L') e ⟨s.dF x.b.toNat,true,true,s.dF x.a.toNat⟩ d.to f
   .rw[decide_eq_true (show x.op≠3 by omega),decide_eq_false (by omega),aLx (show ¬x.op=3 by omega)] at f;refine bW (aA (ay (b:=e) (o:=0) d fun h d=>aS d fun w h d=>aA (am j d rfl (yZ (s:=s) (i:=i) (a:=a) (c:=c) d A (aA (ay (b:=e) (o:=0) d fun h d=>?_))))));have d:=d.sg (b:=e) (o:=0) (c:=sX ⟨s.dF x.b.toNat,true,false,s.dF x.a.toNat⟩) rfl;exact fin (M:=L') e ⟨s.dF x.b.toNat,true,false,s.dF x.a.toNat⟩ d.to f
   .omega
  .have k:M1 x.op=false:=k;simp only[k,Bool.false_eq_true,if_false] at f;refine aJ (c:=sX Sf) rfl (ax (b:=g) d fun h d=>an g d (l:=sX Sf) rfl rfl (f _ d.to))
theorem aEu (t:s.Ok) (d:Hs G h L) [m:Has (jZ i p) L s L']
  (e:∀r,Hs G r (jZ i p s::L')->Q (match bE.Xv s i with|some a=> .tuple ⟨[.agg ⟨a.enc⟩,.bool true]⟩|none=> .tuple ⟨[.agg ⟨iu.enc⟩,.bool false]⟩) r):Cl Pr K 164 [pt p 0 0] h Q:=by
 have d:=m.of d
 unfold bE.Xv bE.next? at e
 refine cW (bN (cs:=iu.enc) d fun j h d=>I1 (i:=i) (s:=s) t d fun h d=>?_)
 cases hov:s.over with
 |true=>
  simp only[hov,if_true] at e ⊢
  refine aG rfl (aG rfl (bN d fun g h d=>ax (b:=g) d fun h d=>bY (dN (aJ (c:=iu.enc) rfl ?_))))
  refine ax (b:=j) d fun h d=>an j d (l:=iu.enc) rfl rfl (e _ d.to)
 |false=>
  have k:=As t hov
  simp only[hov,Bool.false_eq_true,if_false] at e ⊢
  generalize u:yV s.prog s.at'=x at e k
  refine aG rfl (aG rfl (bN d fun g h d=>ax (b:=g) d fun h d=>bY (bP (aA (am g d rfl (aX (aT (fun f=>?_) (fun f=>?_))))))))
  .have f:¬x.op=8:=f;rw[aLx f] at e;refine aJ (c:=iu.enc) rfl (ax (b:=j) d fun h d=>an j d (l:=iu.enc) rfl rfl (e _ d.to))
  .have f:x.op=8:=by have:¬x.op≠8:=f;omega
   rw[aLy f] at e
   have n:=k.r2 (by omega)
   have q:=k.r3 (by omega)
   obtain⟨a,c,d⟩:=mX (d.front (jZ i p s))
   refine aS d fun v h d=>aB (aA (am p d rfl (aB (aA (aA (am p d rfl (aA (am g d rfl (aA (am g d rfl ?_))))))))))
   refine yZ (s:=s) (i:=i) (a:=a) (c:=c) d n (aA (am g d rfl (yZ (s:=s) (i:=i) (a:=a) (c:=c) d q ?_)))
   refine aJ (c:=(⟨i,s.world,x.a,s.dF x.b.toNat,s.dF x.c.toNat⟩:Mc.Ask).enc) rfl (ax (b:=j) d fun h d=>an j d (l:=(⟨i,s.world,x.a,s.dF x.b.toNat,s.dF x.c.toNat⟩:Mc.Ask).enc) rfl rfl (e _ ?_))
   exact(iP p i s (a:=a) (c:=c) d rfl rfl).to
theorem Yq {x:Ins} {e z:Nat} {code:Int} {a:Option Addr} {c:Nat} {k:AH->Nat->Prop} {w:Bool} (r:w=true) (F:0<=x.b/\x.b<4) (d:Hs G h (aE e 0 x.enc::aE z 0 Gc.enc::aE p 0 (pP i s a c)::M7 a c s.prog::L))
  (E:∀q y,Hs G y (aE q 0 (bE.ev s i x (s.dF x.b.toNat) 0 code).enc::aE e 0 x.enc::aE z 0 Gc.enc::aE p 0 (pP i s a c)::M7 a c s.prog::L)->k y q):
  bA (rT h 4 (pt e 0 0)) fun v0=>Cl Pr K 203 [pt p 0 0,v0] h fun v1 A=>A2 A (.cells [(I 0),(I 0),(I 0),(I 0),(I 0),(I 0),(I 0)] 74 (0,0) true) fun f B=>bA (sH B 7 (pt f 0 0) v1) fun D=>Nk w D 13 fun _ n=>
   bA (fZ 2 (pt e 0 0)) fun H=>bA (ld1 n H) fun J=>bA (lT (pt p 0 0)) fun v9=>bA (fZ 0 v9) fun v10=>bA (fZ 0 v10) fun v11=>bA (nR 4 1 v11 J) fun v12=>bA (ld1 n v12) fun t=>bA (fZ 4 (pt f 0 0)) fun u=>bA (sH n 1 u t) fun g=>bA (fZ 6 (pt f 0 0)) fun v=>bA (sH g 1 v (I code)) fun j=>
   (nP (I code) (I code)=true)/\k j f:=by
 refine an e d (l:=x.enc) rfl rfl (V3 (a:=a) (c:=c) (s:=s) (i:=i) d fun h d=>bN d fun q h d=>ax (b:=q) d fun h d=>aS (hc:=r) d fun N h d=>aA (am e d rfl ?_))
 refine yZ (s:=s) (i:=i) (a:=a) (c:=c) d F (aA (ay (b:=q) (o:=0) d fun h d=>aA (ay (b:=q) (o:=0) d fun h d=>bV iN (E _ _ ?_))))
 have d:=d.sg (b:=q) (o:=0) (c:=(bE.ev s i x (s.dF x.b.toNat) 0 code).enc) rfl
 exact d.to
theorem jd {value code:Int} (H:s.Ok) (d:Hs G h L) [m:Has (jZ i p) L s L']
  (g:∀F,Hs G F (jZ i p (bE.cH s i value code).1::L')->Q (.tuple ⟨[.agg ⟨(bE.cH s i value code).2.1.enc⟩,I (bE.cH s i value code).2.2]⟩) F):Cl Pr K 239 [pt p 0 0,I value,I code] h Q:=by
 have d:=m.of d
 have Y:=H.1
 have U:=H.2.1
 unfold bE.cH bE.next? at g
 refine cW (bN (cs:=Gc.enc) d fun j h d=>cK (bP (bW (I1 (i:=i) (s:=s) H d fun h d=>?_))))
 have bad:∀{h:AH} {M:List HP} (e:Int),[Sub M (jZ i p s::L')]->Hs G h (aE j 0 Gc.enc::M)->(∀F,Hs G F (jZ i p s::L')->Q (.tuple ⟨[.agg ⟨Gc.enc⟩,I e]⟩) F)->
   bA (nY [(I 0),(I 0),(I 0),(I 0),(I 0),(I 0),(I 0)] []) fun c5=>bA (sH h 7 (pt j 0 0) (.agg ⟨c5⟩)) fun R=>bA (rT R 7 (pt j 0 0)) fun X=>Q (.tuple ⟨[X,(I e)]⟩) R:=by
  intro h M e _ d W
  refine aJ (c:=Gc.enc) rfl (ax (b:=j) d fun h d=>an j d (l:=Gc.enc) rfl rfl (W _ ?_))
  exact d.tail.to
 cases hov:s.over with
 |true=>
  simp only[hov,if_true] at g ⊢
  refine aG rfl (aG rfl (bN d fun f h d=>ax (b:=f) d fun h d=>bY (dN ?_)))
  exact bad (M:=jZ i p s::L') 16 d.to g
 |false=>
  have D:=As H hov
  simp only[hov,Bool.false_eq_true,if_false] at g ⊢
  generalize Z:yV s.prog s.at'=x at g D
  refine aG rfl (aG rfl (bN d fun f h d=>ax (b:=f) d fun h d=>bY (bP (aA (am f d rfl ?_)))))
  have tail:∀{h:AH} {a:Option Addr} {c q:Nat},(x.op=8\/M1 x.op=true/\(code=0\/code=19))->Hs G h (aE q 0 (bE.ev s i x (s.dF x.b.toNat) 0 code).enc::aE f 0 x.enc::aE j 0 Gc.enc::aE p 0 (pP i s a c)::M7 a c s.prog::L')->
    bA (fZ 0 (pt f 0 0)) fun r=>bA (ld1 h r) fun t=>bA (sY .eql t (I 8)) fun v20=>Br v20 (Dd 239 4 [] Q [(pt p 0 0),(I code),(pt j 0 0),(pt f 0 0),(pt q 0 0)] h) (Dd 239 5 [] Q [(pt p 0 0),(I value),(I code),(pt j 0 0),(pt f 0 0),(pt q 0 0)] h):=by
   intro h a c q S d
   have u:∀{h:AH} {s':bE} {v:Ev},s'.prog=s.prog->Hs G h (aE q 0 v.enc::aE j 0 Gc.enc::aE p 0 (pP i s' a c)::M7 a c s.prog::L')->Hs G h (jZ i p s'::aE q 0 v.enc::aE j 0 Gc.enc::L'):=by
    intro h s' v V d;exact iP p i s' (a:=a) (c:=c) d rfl V.symm
   refine aA (am f d rfl (bG (aT (fun n=>?_) (fun n=>bW ?_))))
   .have n:x.op=8:=n;simp only[n,if_true] at g;have y:=D.r2 (by omega);have N:=D.r3 (by omega);refine bW (aS d fun O h d=>aA (am f d rfl (yZ (s:=s) (i:=i) (a:=a) (c:=c) d N (aA (ay (b:=q) (o:=0) d fun h d=>aS d fun O h d=>aA (am f d rfl (Bz (s:=s) (a:=a) (c:=c) d y fun h d=>?_)))))));refine aB (aA (aA (am p d rfl (aY (by show -9223372036854775808<=s.at'+1/\s.at'+1<=_;omega) ?_))));have d:=d.sg (b:=q) (o:=0) (c:=(bE.ev s i x (s.dF x.b.toNat) (s.dF x.c.toNat) code).enc) rfl;exact kW (s:=s.dJ x.b code) (v:=bE.ev s i x (s.dF x.b.toNat) (s.dF x.c.toNat) code) (x:=s.at'+1) rfl (by omega) (u (s':=s.dJ x.b code) rfl d.to) g
   .have n:¬x.op=8:=n;obtain⟨w,S⟩:M1 x.op=true/\(code=0\/code=19):=by rcases S with h|h;exact absurd h n;exact h
    have J:x.op=3\/x.op=4\/x.op=5:=of_decide_eq_true w
    have T:=D.r1 (by omega)
    simp only[aLx n,w,if_true] at g
    rw[aab] at g
    refine bG (aT (fun z=>?_) (fun z=>bW (aA (am f d rfl (bG (aT (fun c4=>?_) (fun c4=>?_)))))))
    .simp only[z,if_true] at g;subst z;refine bW (aB (aA (aA (am p d rfl (aac ?_)))));exact kW (s:=s) (v:=bE.ev s i x (s.dF x.b.toNat) 0 19) (x:=s.at'+1) rfl (by omega) (u (s':=s) rfl d.to) g
    .have c4:x.op=4:=c4;simp only[aLx z,c4,if_true] at g;have A:code=0:=by omega
     subst A
     refine bW (aS d fun O h d=>aA (am f d rfl (yZ (s:=s) (i:=i) (a:=a) (c:=c) d T (aA (ay (b:=q) (o:=0) d fun h d=>aB (aA (aA (am p d rfl (aY (by show -9223372036854775808<=s.at'+1/\s.at'+1<=_;omega) ?_)))))))))
     have d:=d.sg (b:=q) (o:=0) (c:=(bE.ev s i x (s.dF x.b.toNat) (s.dF x.a.toNat) 0).enc) rfl
     exact kW (s:=s) (v:=bE.ev s i x (s.dF x.b.toNat) (s.dF x.a.toNat) 0) (x:=s.at'+1) rfl (by omega) (u (s':=s) rfl d.to) g
    .have c4:¬x.op=4:=c4;simp only[aLx z,aLx c4] at g;have A:code=0:=by omega
     subst A
     refine bW (aA (ay (b:=q) (o:=0) d fun h d=>aS d fun O h d=>aA (am f d rfl (Bz (s:=s) (a:=a) (c:=c) d T fun h d=>aB (aA (aA (am p d rfl (aY (by show -9223372036854775808<=s.at'+1/\s.at'+1<=_;omega) ?_))))))))
     have d:=d.sg (b:=q) (o:=0) (c:=(bE.ev s i x (s.dF x.b.toNat) value 0).enc) rfl
     exact kW (s:=s.dJ x.a value) (v:=bE.ev s i x (s.dF x.b.toNat) value 0) (x:=s.at'+1) rfl (by omega) (u (s':=s.dJ x.a value) rfl d.to) g
  have B:∀{h:AH} {M:List HP},[Sub M L']->Hs G h (aE f 0 x.enc::aE j 0 Gc.enc::jZ i p s::M)->∃a c,Hs G h (aE f 0 x.enc::aE j 0 Gc.enc::aE p 0 (pP i s a c)::M7 a c s.prog::L'):=by
   intro h M _ d;obtain⟨a,c,d⟩:=mX (d.front (jZ i p s));exact⟨a,c,d.to⟩
  have d:Hs G h (aE f 0 x.enc::aE j 0 Gc.enc::jZ i p s::L'):=d.to
  refine aX (aT (fun n=>?_) (fun n=>?_))
  .have n:¬x.op=8:=n;refine aA (am f d rfl (Pb (bY (dY (dH (fun w=>?_) (fun w=>?_))))))
   .have w:M1 x.op=true:=w;have J:x.op=3\/x.op=4\/x.op=5:=of_decide_eq_true w;have y:=D.r2 (by omega);refine bW (aA (am f d rfl (aX (bJ n (aX (aT (fun P=>aX (aT (fun E=>?_) (fun E=>?_))) (fun P=>?_)))))))
    .simp only[aLx n,w,if_true] at g;rw[aLy ⟨P,E⟩] at g;exact bad (M:=jZ i p s::L') 1 d.to g
    .obtain⟨a,c,d⟩:=B (M:=L') d;refine bW (Yq (k:=fun h q=>bA (fZ 0 (pt f 0 0)) fun r=>bA (ld1 h r) fun t=>bA (sY .eql t (I 8)) fun v20=>Br v20 (Dd 239 4 [] Q [(pt p 0 0),(I code),(pt j 0 0),(pt f 0 0),(pt q 0 0)] h) (Dd 239 5 [] Q [(pt p 0 0),(I value),(I code),(pt j 0 0),(pt f 0 0),(pt q 0 0)] h)) (by kernel_rfl) y d fun q h d=>tail (.inr ⟨w,by omega⟩) d)
    .obtain⟨a,c,d⟩:=B (M:=L') d;exact Yq (k:=fun h q=>bA (fZ 0 (pt f 0 0)) fun r=>bA (ld1 h r) fun t=>bA (sY .eql t (I 8)) fun v20=>Br v20 (Dd 239 4 [] Q [(pt p 0 0),(I code),(pt j 0 0),(pt f 0 0),(pt q 0 0)] h) (Dd 239 5 [] Q [(pt p 0 0),(I value),(I code),(pt j 0 0),(pt f 0 0),(pt q 0 0)] h)) (by kernel_rfl) y d fun q h d=>tail (.inr ⟨w,by omega⟩) d
   .have w:M1 x.op=false:=w;simp only[aLx n,w,Bool.false_eq_true,if_false] at g;exact bad (M:=jZ i p s::L') 16 d.to g
  .have n:x.op=8:=by have:¬x.op≠8:=n;omega
   have y:=D.r2 (by omega)
   refine aA (am f d rfl (aX (aH (by show ¬x.op≠8;omega) ?_)))
   obtain⟨a,c,d⟩:=B (M:=L') d
   exact Yq (k:=fun h q=>bA (fZ 0 (pt f 0 0)) fun r=>bA (ld1 h r) fun t=>bA (sY .eql t (I 8)) fun v20=>Br v20 (Dd 239 4 [] Q [(pt p 0 0),(I code),(pt j 0 0),(pt f 0 0),(pt q 0 0)] h) (Dd 239 5 [] Q [(pt p 0 0),(I value),(I code),(pt j 0 0),(pt f 0 0),(pt q 0 0)] h)) (by kernel_rfl) y d fun q h d=>tail (.inl n) d
end
section
set_option maxRecDepth 100000
variable {G:Bg} {h:AH} {L L' M:List HP} {Q:Value->AH->Prop} {s:bE} {i p:Nat}
theorem ia {α:Type} {enc:α->List Value} {l:List α}:(l.map enc).flatten=eL enc l:=by simp[eL,List.flatMap]
theorem R9 {v:Value} {e:TypeId} {l:List Ins} (hb:l.length<=1000) (b:Hs G h (yU G 4 e v (l.map Ins.enc)::L)) (f:∀a c d,Hs G d (M7 a c l::yU G 4 e v (l.map Ins.enc)::L)->Q (.slice a l.length c) d):Cl Pr K 49 [v] h Q:=by
 refine cW (Kq (bytes:=32) (e:=76) b (by decide) (List.length_map ..) (by rw[ia];exact Gg) (by omega) fun a c h b=>f a c h ?_);rw[ia] at b;exact b
theorem o8 {v:Value} {w:Int} {e:TypeId} {pr:List Ins} (n:i<4) (q:0<=w/\w<=3) (j:Ob G 1 tW) (hc:(lE pr).2=0) (d:Hs G h (yU G 4 e v (pr.map Ins.enc)::L))
  (k:∀p f,Hs G f (jZ i p (sK pr w)::yU G 4 e v (pr.map Ins.enc)::L)->Q (.tuple ⟨[pt p 0 0,I 0]⟩) f):Cl Pr K 36 [I i,I w,v] h Q:=by
 have g:pr.length<=32:=by
  unfold lE at hc;split at hc;cases hc;omega
 refine cW (aI (aaa (dV (aaa (aI (aaa (iM (aaa (bW (Ey j d fun h d=>aG rfl (aG rfl (aX (aaa (bW ?_))))))))))))))
 refine R9 (l:=pr) (by omega) d fun a c h d=>?_
 refine aJ (c:=pP i ⟨fun _=>0,0,0,false,pr⟩ a c) rfl (dL d fun p h d=>aB (aA (aA (ay (b:=p) (o:=0) d fun h d=>?_))))
 have d:Hs G h (aE p 0 (pP i ⟨fun _=>0,0,w,false,pr⟩ a c)::M7 a c pr::yU G 4 e v (pr.map Ins.enc)::L):=d
 have d:=iP p i ⟨fun _=>0,0,w,false,pr⟩ (a:=a) (c:=c) d rfl rfl
 exact Iq (i:=i) (s:=⟨fun _=>0,0,w,false,pr⟩) (by omega) d fun h d=>k _ _ d
end
end Go.Proofs.YtmhapehobfnoiaaGreatDoor
namespace Go.Proofs.YtmhapehobfnoiaaGreatDoor
open Go Go.Ab Go.Hm Go.At Go.Mc Go.Ct
section
instance:Fx Ev.enc 7 where
 len _:=rfl
 cel _:=rfl
structure MN where
 lc:List Nat
 lk:List Nat
 lq:List Nat
 ac:Option Addr
 ak:Option Addr
 aq:Option Addr
 al:Option Addr
 cc:Nat
 ck:Nat
 cq:Nat
 cl:Nat
 hb:Nat
 mb:Nat
 fb:Nat
def eW (Cf:bQ) (x:MN) (n:Nat):List Value:=Cf.enc++[.slice x.ac x.lc.length x.cc,.slice x.ak x.lk.length x.ck,.slice x.aq x.lq.length x.cq,pt x.hb 0 0,pt x.mb 0 0,pt x.fb 0 0,.slice x.al n x.cl]
def Nj (Cf:bQ) (x:MN):Prop:=x.lc.length=Cf.aD.toNat/\x.lk.length=Cf.aD.toNat/\x.lq.length=Cf.aD.toNat
abbrev mQ:Nat->Nat->bE->HP:=fun i p s=>jZ i p s
abbrev kK (G:Bg) (Cf:bQ):Nat->Nat->jJ->HP:=fun i p s=>C.gC G p Cf i s
abbrev kG (Cf:bQ):Nat->Nat->kY->HP:=fun _ p s=>jE p Cf s
abbrev Bo (a:Option Addr) (c:Nat) (l:List Ev):HP:=ls Ev.enc 7 74 a c l
abbrev Ug (a:Option Addr) (c:Nat) (l:List Nat):HP:=ls pE 1 95 a c l
abbrev Ot (a:Option Addr) (c:Nat) (l:List Nat):HP:=ls pE 1 98 a c l
abbrev Oo (a:Option Addr) (c:Nat) (l:List Nat):HP:=ls pE 1 101 a c l
def J0 (G:Bg) (Cf:bQ) (m:Nat) (M:cX) (x:MN):List HP:=[rN (Nj Cf x),aE m 0 (eW Cf x M.log.length),Ug x.ac x.cc x.lc,Ot x.ak x.ck x.lk,Oo x.aq x.cq x.lq,
  iY mQ x.lc M.aR,iY (kK G Cf) x.lk M.cC,iY (kG Cf) x.lq M.bT,H.fO G x.hb Cf M.home,fD Cf x.mb M.dG,lI Cf x.fb M.iZ,Bo x.al x.cl M.log]
def gD (G:Bg) (Cf:bQ) (m:Nat) (x:MN) (M:cX):HP:=sp (J0 G Cf m M x)
def bB (G:Bg) (Cf:bQ) (m:Nat) (M:cX):HP:=qV fun x:MN=>sp (J0 G Cf m M x)
set_option maxRecDepth 100000
variable {G:Bg} {h:AH} {L L':List HP} {Q:Value->AH->Prop} {Cf:bQ} {m:Nat} {M:cX}
theorem cQ (a:Hs G h (bB G Cf m M::L)):∃x,Nj Cf x/\Hs G h (aE m 0 (eW Cf x M.log.length)::Ug x.ac x.cc x.lc::Ot x.ak x.ck x.lk::Oo x.aq x.cq x.lq::
  iY mQ x.lc M.aR::iY (kK G Cf) x.lk M.cC::iY (kG Cf) x.lq M.bT::H.fO G x.hb Cf M.home::fD Cf x.mb M.dG::lI Cf x.fb M.iZ::Bo x.al x.cl M.log::L):=by
 obtain⟨x,a⟩:=a.rS
 obtain⟨b,a⟩:=Hs.To a.unpack
 exact⟨x,b,a⟩
theorem vL {x:MN} (a:Nj Cf x) (b:Hs G h (aE m 0 (eW Cf x M.log.length)::Ug x.ac x.cc x.lc::Ot x.ak x.ck x.lk::Oo x.aq x.cq x.lq::
  iY mQ x.lc M.aR::iY (kK G Cf) x.lk M.cC::iY (kG Cf) x.lq M.bT::H.fO G x.hb Cf M.home::fD Cf x.mb M.dG::lI Cf x.fb M.iZ::Bo x.al x.cl M.log::L)):Hs G h (bB G Cf m M::L):=
 Hs.oZ (A:=fun x:MN=>sp (J0 G Cf m M x)) x (Hs.pack (A:=J0 G Cf m M x) (Hs.Wm a b))
theorem bI {x:MN} (M:cX) (q:Nj Cf x) {e L2 f g j k l n o a b:List HP} (r:Hs G h L) [t:dX (aE m 0 (eW Cf x M.log.length)) L e] [u:dX (Ug x.ac x.cc x.lc) e L2] [v:dX (Ot x.ak x.ck x.lk) L2 f] [w:dX (Oo x.aq x.cq x.lq) f g] [y:dX (iY mQ x.lc M.aR) g j] [z:dX (iY (kK G Cf) x.lk M.cC) j k] [A:dX (iY (kG Cf) x.lq M.bT) k l] [B:dX (H.fO G x.hb Cf M.home) l n] [D:dX (fD Cf x.mb M.dG) n o] [c:dX (lI Cf x.fb M.iZ) o a] [d:dX (Bo x.al x.cl M.log) a b]:Hs G h (bB G Cf m M::b):=
 vL (x:=x) q (r.perm (t.perm.trans ((u.perm.trans ((v.perm.trans ((w.perm.trans ((y.perm.trans ((z.perm.trans ((A.perm.trans ((B.perm.trans ((D.perm.trans ((c.perm.trans ((d.perm).cons _)).cons _)).cons _)).cons _)).cons _)).cons _)).cons _)).cons _)).cons _)).cons _)))
theorem gV {x:MN} (M:cX) (q:Nj Cf x) {e L2 f g j k l n o a b:List HP} (r:Hs G h L) [t:dX (aE m 0 (eW Cf x M.log.length)) L e] [u:dX (Ug x.ac x.cc x.lc) e L2] [v:dX (Ot x.ak x.ck x.lk) L2 f] [w:dX (Oo x.aq x.cq x.lq) f g] [y:dX (iY mQ x.lc M.aR) g j] [z:dX (iY (kK G Cf) x.lk M.cC) j k] [B:dX (iY (kG Cf) x.lq M.bT) k l] [D:dX (H.fO G x.hb Cf M.home) l n] [E:dX (fD Cf x.mb M.dG) n o] [c:dX (lI Cf x.fb M.iZ) o a] [d:dX (Bo x.al x.cl M.log) a b]:Hs G h (gD G Cf m x M::b):=
 Hs.pack (A:=J0 G Cf m M x) (Hs.Wm q (r.perm (t.perm.trans ((u.perm.trans ((v.perm.trans ((w.perm.trans ((y.perm.trans ((z.perm.trans ((B.perm.trans ((D.perm.trans ((E.perm.trans ((c.perm.trans ((d.perm).cons _)).cons _)).cons _)).cons _)).cons _)).cons _)).cons _)).cons _)).cons _)).cons _))))
theorem fL {x:MN} (a:Hs G h (gD G Cf m x M::L)):Nj Cf x/\Hs G h (aE m 0 (eW Cf x M.log.length)::Ug x.ac x.cc x.lc::Ot x.ak x.ck x.lk::Oo x.aq x.cq x.lq::
  iY mQ x.lc M.aR::iY (kK G Cf) x.lk M.cC::iY (kG Cf) x.lq M.bT::H.fO G x.hb Cf M.home::fD Cf x.mb M.dG::lI Cf x.fb M.iZ::Bo x.al x.cl M.log::L):=Hs.To a.unpack
theorem aj (a:Hs G h (bB G Cf m M::L)):∃x,Hs G h (gD G Cf m x M::L):=a.rS
theorem Zj {x:MN} (a:Hs G h (gD G Cf m x M::L)):Hs G h (bB G Cf m M::L):=Hs.oZ (A:=fun x:MN=>sp (J0 G Cf m M x)) x a
theorem Bt {a:Option Addr} {c i:Nat} {l:List Nat} {k:Value->Prop} (f:Hs G h L) [g:Has (Ug a c) L l L'] (b:i<l.length) (d:k (pt (l.getD i 0) 0 0)):bA (jV 1 (.slice a l.length c) (I i)) fun p=>bA (ld1 h p) k:=
 vq (e:=95) (show Hs G h (Ug a c l::L') from g.of f) b d
theorem zE {a:Option Addr} {c i:Nat} {l:List Nat} {k:Value->Prop} (f:Hs G h L) [g:Has (Ot a c) L l L'] (b:i<l.length) (d:k (pt (l.getD i 0) 0 0)):bA (jV 1 (.slice a l.length c) (I i)) fun p=>bA (ld1 h p) k:=
 vq (e:=98) (show Hs G h (Ot a c l::L') from g.of f) b d
theorem ff {a:Option Addr} {c i q:Nat} {l:List Nat} {k:AH->Prop} (g:Hs G h L) [j:Has (Ot a c) L l L'] (d:i<l.length) (f:∀b,Hs G b (Ot a c (l.set i q)::L')->k b):bA (jV 1 (.slice a l.length c) (I i)) fun p=>bA (sH h 1 p (pt q 0 0)) k:=
 wu (e:=98) (show Hs G h (Ot a c l::L') from j.of g) d f
theorem zN {a:Option Addr} {c i:Nat} {l:List Nat} {k:Value->Prop} (f:Hs G h L) [g:Has (Oo a c) L l L'] (b:i<l.length) (d:k (pt (l.getD i 0) 0 0)):bA (jV 1 (.slice a l.length c) (I i)) fun p=>bA (ld1 h p) k:=
 vq (e:=101) (show Hs G h (Oo a c l::L') from g.of f) b d
theorem Rj {a:Option Addr} {c i q:Nat} {l:List Nat} {k:AH->Prop} (g:Hs G h L) [j:Has (Oo a c) L l L'] (d:i<l.length) (f:∀b,Hs G b (Oo a c (l.set i q)::L')->k b):bA (jV 1 (.slice a l.length c) (I i)) fun p=>bA (sH h 1 p (pt q 0 0)) k:=
 wu (e:=101) (show Hs G h (Oo a c l::L') from j.of g) d f
theorem Ay {l:List Nat} {s:Nat->bE} {i:Nat} {t:bE} (a:i<l.length) (b:Hs G h L) [k:dX (jZ i (l.getD i 0) t) L L'] {N:List HP} [c:dX (A3 mQ l s i) L' N]:Hs G h (iY mQ l (cB s i t)::N):=uF a (b.bL (jZ i (l.getD i 0) t) (A3 mQ l s i))
theorem Iy {a:Option Addr} {c:Nat} {l:List Ev} {v:Ev} {a2:Option Addr} {c2:Nat} {k:Value×AH->Prop} {N:List HP} (hb:l.length<=2^30) (b:Hs G h L) [n:Has (Bo a c) L l L'] [m2:dX (Bo a2 c2 [v]) L' N]
  (j:∀d e g,Hs G g (Bo d e (l++[v])::N)->k (.slice d (l++[v]).length e,g)):bA (iK 7 56 74 h (.slice a l.length c) (.slice a2 1 c2)) k:=by
 have b:=n.of b
 have f:Hs G h (Bo a c l::Bo a2 c2 [v]::N):=b.perm (m2.perm.cons _)
 exact kL (l:=l) (l2:=[v]) (a:=a) (c:=c) (a2:=a2) (c2:=c2) f (by simp;omega) fun d e h b=>j d e h b.lJ.tail
end
section
set_option maxRecDepth 100000
variable {G:Bg} {h:AH} {L L':List HP} {Q:Value->AH->Prop} {Cf:bQ} {m:Nat} {M:cX}
theorem nH {i:Nat} {v c:Int} (H:(i:Int)<Cf.aD) (B:(M.aR i).Ok) (k:M.log.length<=2^30) (d:Hs G h L) [E:Has (bB G Cf m) L M L'] (g:∀A,Hs G A (bB G Cf m (M.cH i v c).1::L')->Q (I (M.cH i v c).2) A):Cl Pr K 174 [pt m 0 0,I i,I v,I c] h Q:=by
 obtain⟨x,z,d⟩:=cQ (E.of d);have f:i<x.lc.length:=by have:=z.1;omega
 unfold cX.cH at g;refine cW (aB (aA (am m d rfl (Bt d f ?_))));have d:=eR (R:=mQ) (l:=x.lc) (s:=M.aR) f d;refine jd (i:=i) (p:=x.lc.getD i 0) (s:=M.aR i) B d fun h d=>?_;have d:=Ay (l:=x.lc) (s:=M.aR) (i:=i) (t:=(bE.cH (M.aR i) i v c).1) f d;refine aG rfl (aG rfl (bN d fun q h d=>ax (b:=q) d fun h d=>aX (aT (fun n=>?_) (fun n=>?_))));rw[aLy n] at g;refine g _ ?_;have e:cB M.aR i (bE.cH (M.aR i) i v c).1=M.aR:=by
  have:(bE.cH (M.aR i) i v c).1=M.aR i:=by
   unfold bE.cH at n ⊢;cases hn:bE.next? (M.aR i) with
   |none=>rfl
   |some y=>grind
  rw[this];funext j;unfold cB;split;rename_i e;rw[e];rfl
 rw[e] at d;exact vL z d.to;rw[aLx n] at g;refine bW (aS d fun F h d=>aB (aA (am m d rfl (an q d (l:=(bE.cH (M.aR i) i v c).2.1.enc) rfl rfl (aJ (c:=(bE.cH (M.aR i) i v c).2.1.enc) rfl ?_)))));refine gM (r:=F) (i:=6) (N:=11) (D:=[]) (W:=7) d rfl rfl rfl rfl rfl fun a h d=>?_;have d:=mR (enc:=Ev.enc) (x:=(bE.cH (M.aR i) i v c).2.1) d;refine Iy (l:=M.log) (v:=(bE.cH (M.aR i) i v c).2.1) k d fun u w h d=>aB (aA (ay (b:=m) (o:=0) d fun h d=>bV bX (g _ ?_)));have e:dT (eW Cf x M.log.length) (0+13) [.slice u (M.log++[(bE.cH (M.aR i) i v c).2.1]).length w]=eW Cf {x with al:=u,cl:=w} (M.log++[(bE.cH (M.aR i) i v c).2.1]).length:=rfl;rw[e] at d;exact vL (M:=(M.yB i (bE.cH (M.aR i) i v c).1).V1 (bE.cH (M.aR i) i v c).2.1) (x:={x with al:=u,cl:=w}) z d.to
end
section
set_option maxRecDepth 100000
variable {G:Bg} {h:AH} {L L':List HP} {Q:Value->AH->Prop} {Cf:bQ} {m:Nat} {x:MN} {M:cX}
abbrev wtX (G:Bg) (Cf:bQ) (m:Nat) (x:MN) (M:cX) (p2 a c:Nat) (co:Int) (e:Nat->Value) (d l:Nat) (st:LoopState×Option Code) (b:Bool) (pr:Prop):HP:=
 sp [rN pr,fM Pr 15 (fQ 58) 32 e d l st,sp [aE p2 0 [pt m 0 0],aE a 0 [I co],aE c 0 [.bool b]],gD G Cf m x M]
theorem Oa {co:Int} (hm:gX Cf M.dG) (f:Hs G h L) [mm:Has (gD G Cf m x) L M L'] (z:∀V,Hs G V (gD G Cf m x M::L')->Q (.bool (M.waits co)) V):Cl Pr K 15 [pt m 0 0,I co] h Q:=by
 unfold cX.waits at z;refine cW (dL (mm.of f) fun n h f=>dL f fun t h f=>bN f fun j h f=>am n f rfl (cK (bP ?_)));obtain⟨S,f⟩:=fL (f.front (gD G Cf m x M));refine bW (am n f rfl (aB (aA (am m f rfl (Ce (C:=Cf) (m:=M.dG) f fun q qa qc h f=>?_)))));have f:=gV (m:=m) (x:=x) M S f;refine iI f fun d h f=>?_;intro e he;refine jL f fun l h f=>oB rfl ?_;have f:Hs G h (H.Nv 3 q qa qc (M.dG.running.map fun k:Nat=>(k:Int))::wtX G Cf m x M n t j co e d l (.ready,none) false (∀g∈([]:List Int),M.dG.lQ co g.toNat=false)::mk d ()::L'):=by
  have f:=(f.cE (aE n 0 [pt m 0 0]) (aE t 0 [I co]) (aE j 0 [.bool false])).M4;have f:=f.cE (fM Pr 15 (fQ 58) 32 e d l (.ready,none)) (sp [aE n 0 [pt m 0 0],aE t 0 [I co],aE j 0 [.bool false]]) (gD G Cf m x M);have f:=Hs.E7 (Hs.Wm (p:=∀g∈([]:List Int),M.dG.lQ co g.toNat=false) (by simp) f);exact f.to
 refine(H.Em (e:=3) (p:=q) (a:=qa) (c:=qc) (xs:=M.dG.running.map fun k:Nat=>(k:Int)) (by have:=List.length_filter_le (fun g=>(M.dG.runs g).isSome) (List.range 16);simp[Mon.running] at this ⊢;omega)).fold
  (X:=fun done=>wtX G Cf m x M n t j co e d l (.ready,none) false (∀g∈done,M.dG.lQ co g.toNat=false)) (Z:=fun _ y=>wtX G Cf m x M n t j co e d l (.done,some .ret) true (y∈(M.dG.running.map fun k:Nat=>(k:Int))/\M.dG.lQ co y.toNat=true)) f ?_ ?_ ?_
 .intro done y h N W f;obtain⟨w,f⟩:=hJ f;have f:=f.yG;obtain⟨k,A,rfl⟩:∃k∈M.dG.running,(k:Int)=y:=by
   obtain⟨ys,U⟩:=W;have:y∈M.dG.running.map fun k:Nat=>(k:Int):=by rw[<-U];simp
   obtain⟨k,h1,h2⟩:=List.mem_map.1 this;exact⟨k,h1,h2⟩
  obtain⟨r,F⟩:=Option.isSome_iff_exists.1 (qH.1 A).2;have D:M.dG.run (k:Int)=some r:=by unfold Mon.run;rw[aae];exact F
  have B:M.dG.phase (k:Int)≠0:=by
   unfold Mon.phase;rw[D];have:=(hm.run k r F).2.2.1;dsimp only;omega
  have f:=(f.front (sp [aE n 0 [pt m 0 0],aE t 0 [I co],aE j 0 [.bool false]])).yG;obtain⟨S,f⟩:=fL (f.front (gD G Cf m x M));refine rW (nX f) he (fG f fun h f=>am n f rfl (aB (aA (am m f rfl (aIf (C:=Cf) (m:=M.dG) f fun a h f O α β=>?_)))));rw[O B,D,decide_eq_true B];have f:=gV (m:=m) (x:=x) M S f;refine aG rfl (aG rfl (bN f fun Y h f=>aZ (b:=Y) (vs:=Ac r) f rfl rfl rfl rfl fun h f=>dN (aA (am Y f rfl (am t f rfl (bG (aT (fun J=>?_) (fun J=>?_))))))));refine ax (b:=j) f fun h f=>gK f fun h f=> .inr ⟨rfl,?_⟩;have f:=(f.cE (aE n 0 [pt m 0 0]) (aE t 0 [I co]) (aE j 0 [.bool true])).M4;have f:=f.cE (fM Pr 15 (fQ 58) 32 e d l (.done,some .ret)) (sp [aE n 0 [pt m 0 0],aE t 0 [I co],aE j 0 [.bool true]]) (gD G Cf m x M);refine(Hs.E7 (Hs.Wm (p:=((k:Int)∈(M.dG.running.map fun k:Nat=>(k:Int))/\M.dG.lQ co ((k:Int)).toNat=true)) ⟨List.mem_map.2 ⟨k,A,rfl⟩,?_⟩ f)).to;unfold Mon.lQ;rw[Int.toNat_natCast,F];exact decide_eq_true J
  .refine gK f fun h f=> .inl ⟨rfl,?_⟩;have f:=(f.cE (aE n 0 [pt m 0 0]) (aE t 0 [I co]) (aE j 0 [.bool false])).M4;have f:=f.cE (fM Pr 15 (fQ 58) 32 e d l (.ready,none)) (sp [aE n 0 [pt m 0 0],aE t 0 [I co],aE j 0 [.bool false]]) (gD G Cf m x M);refine(Hs.E7 (Hs.Wm (p:=∀g∈done++[((k:Nat):Int)],M.dG.lQ co g.toNat=false) ?_ f)).to;intro g u;rcases List.mem_append.1 u with u|u;exact w g u;rw[List.mem_singleton.1 u,Int.toNat_natCast];unfold Mon.lQ;rw[F];exact decide_eq_false J
 intro v h f;obtain⟨w,f⟩:=hJ (f.front (wtX G Cf m x M n t j co e d l (.ready,none) false (∀g∈M.dG.running.map (fun k:Nat=>(k:Int)),M.dG.lQ co g.toNat=false)));have f:=f.yG;have T:M.dG.calls co=false:=by
  unfold Mon.calls;rw[List.any_eq_false];intro g u;have:=w g (List.mem_map.2 ⟨g,u,rfl⟩);rw[Int.toNat_natCast] at this;rw[this];simp
 rw[T] at z;have f:=(f.front (sp [aE n 0 [pt m 0 0],aE t 0 [I co],aE j 0 [.bool false]])).yG;exact jN f fun h f=>jR (ax (b:=j) f fun h f=>jW f fun h f=>iT (am j f rfl (z _ f.to)))
 .intro done y v h W f;obtain⟨w,f⟩:=hJ (f.front (wtX G Cf m x M n t j co e d l (.done,some .ret) true (y∈(M.dG.running.map fun k:Nat=>(k:Int))/\M.dG.lQ co y.toNat=true)));have f:=f.yG;have E:M.dG.calls co=true:=by
   unfold Mon.calls;rw[List.any_eq_true];obtain⟨k,P,R⟩:=List.mem_map.1 w.1;refine⟨k,P,?_⟩;have:=w.2;rw[<-R,Int.toNat_natCast] at this;exact this
  rw[E] at z;have f:=(f.front (sp [aE n 0 [pt m 0 0],aE t 0 [I co],aE j 0 [.bool true]])).yG;exact Kt f fun h f=>um (jW f fun h f=>iT (am j f rfl (z _ f.to)))
theorem Me {co:Int} (d:gX Cf M.dG) (a:Hs G h L) [e:Has (bB G Cf m) L M L'] (c:∀b,Hs G b (bB G Cf m M::L')->Q (.bool (M.waits co)) b):Cl Pr K 15 [pt m 0 0,I co] h Q:=by
 obtain⟨x,a⟩:=aj (e.of a);exact Oa (x:=x) d a fun h a=>c _ (Zj a)
end
section
theorem kz {l done:List (Int×Int)} {y:Int×Int} {g:Int} (b:done++[y]<+:l) (a:∀z∈done,z.1≠g) (c:y.1=g):lS l g=some y.2:=by
 obtain⟨r,rfl⟩:=b;unfold lS;rw[List.append_assoc,List.find?_append,List.find?_eq_none.2 (by simpa using a)];simp[c]
theorem Z8 {l:List (Int×Int)} {g:Int} (a:∀z∈l,z.1≠g):lS l g=none:=by
 unfold lS;rw[List.find?_eq_none.2 (by simpa using a)];rfl
set_option maxRecDepth 100000
variable {G:Bg} {h:AH} {L L':List HP} {Q:Value->AH->Prop} {Cf:bQ} {m:Nat} {M:cX}
abbrev knX (G:Bg) (Cf:bQ) (m:Nat) (M:cX) (p2 a:Nat) (g v:Int) (e:Nat->Value) (d l:Nat) (st:LoopState×Option Code) (pr:Prop):HP:=
 sp [rN pr,fM Pr 209 (fQ 218) 25 e d l st,sp [aE p2 0 [I g],aE a 0 [I v]],bB G Cf m M]
theorem qE {l:List Nat} {s:Nat->kY} {i:Nat} {t:kY} (a:i<l.length) (b:Hs G h L) [k:dX (jE (l.getD i 0) Cf t) L L'] {N:List HP} [c:dX (A3 (kG Cf) l s i) L' N]:Hs G h (iY (kG Cf) l (cB s i t)::N):=uF a (b.bL (jE (l.getD i 0) Cf t) (A3 (kG Cf) l s i))
theorem bS {α:Type} {s:Nat->α} {i:Nat}:cB s i (s i)=s:=by
 funext j;unfold cB;split;rename_i e;rw[e];rfl
theorem kx {i:Nat} {g:Int} (F:(i:Int)<Cf.aD) (hb:(M.bT i).known.length<=100) (a:Hs G h L) [E:Has (bB G Cf m) L M L'] (n:∀w,Hs G w (bB G Cf m M::L')->Q (I (M.known i g)) w):Cl Pr K 209 [pt m 0 0,I i,I g] h Q:=by
 unfold cX.known at n;refine cW (dL (E.of a) fun f h a=>bN a fun c h a=>ax (b:=c) a fun h a=>?_);obtain⟨x,A,a⟩:=cQ (a.front (bB G Cf m M));have j:i<x.lq.length:=by have:=A.2.2;omega
 refine aB (aA (am m a rfl (zN a j ?_)));have a:=eR (R:=kG Cf) (l:=x.lq) (s:=M.bT) j a;refine Po (C:=Cf) (p:=x.lq.getD i 0) (s:=M.bT i) hb a fun q h a=>?_;have a:=qE (Cf:=Cf) (l:=x.lq) (s:=M.bT) (i:=i) (t:=M.bT i) j a;rw[bS] at a;have a:=bI (m:=m) (x:=x) M A a;refine iI a fun d h a=>?_;intro e D;refine jL a fun l h a=>oB rfl ?_;have a:Hs G h (Bs q (M.bT i).known::knX G Cf m M f c g 0 e d l (.ready,none) (∀z∈([]:List (Int×Int)),z.1≠g)::mk d ()::L'):=by
  have a:=(a.bL (aE f 0 [I g]) (aE c 0 [I 0])).yC;have a:=a.cE (fM Pr 209 (fQ 218) 25 e d l (.ready,none)) (sp [aE f 0 [I g],aE c 0 [I 0]]) (bB G Cf m M);have a:=Hs.E7 (Hs.Wm (p:=∀z∈([]:List (Int×Int)),z.1≠g) (by simp) a);exact a.to
 refine(eu (q:=q) (l:=(M.bT i).known) (by omega)).fold
  (X:=fun done=>knX G Cf m M f c g 0 e d l (.ready,none) (∀z∈done,z.1≠g)) (Z:=fun done y=>knX G Cf m M f c g y.2 e d l (.done,some (.exit 0)) (lS (M.bT i).known g=some y.2)) a ?_ ?_ ?_
 .intro done y h N B a;obtain⟨k,a⟩:=hJ a;have a:=a.yG;have a:=(a.front (sp [aE f 0 [I g],aE c 0 [I 0]])).Bn;refine rW (nX a) D (fG a fun h a=>am f a rfl (bG (aT (fun u=>?_) (fun u=>?_))));refine ax (b:=c) a fun h a=>gK a fun h a=> .inr ⟨rfl,?_⟩;have a:=(a.bL (aE f 0 [I g]) (aE c 0 [I y.2])).yC;have a:=a.cE (fM Pr 209 (fQ 218) 25 e d l (.done,some (.exit 0))) (sp [aE f 0 [I g],aE c 0 [I y.2]]) (bB G Cf m M);exact(Hs.E7 (Hs.Wm (p:=lS (M.bT i).known g=some y.2) (kz B k u) a)).to
  .refine gK a fun h a=> .inl ⟨rfl,?_⟩;have a:=(a.bL (aE f 0 [I g]) (aE c 0 [I 0])).yC;have a:=a.cE (fM Pr 209 (fQ 218) 25 e d l (.ready,none)) (sp [aE f 0 [I g],aE c 0 [I 0]]) (bB G Cf m M);refine(Hs.E7 (Hs.Wm (p:=∀z∈done++[y],z.1≠g) ?_ a)).to;intro z r;rcases List.mem_append.1 r with r|r;exact k z r;rw[List.mem_singleton.1 r];exact u
 intro v h a;obtain⟨k,a⟩:=hJ (a.front (knX G Cf m M f c g 0 e d l (.ready,none) (∀z∈(M.bT i).known,z.1≠g)));have a:=a.yG;rw[Z8 k] at n;have a:=(a.front (sp [aE f 0 [I g],aE c 0 [I 0]])).Bn;exact jN a fun h a=>jR (am c a rfl (jW a fun h a=>iT (n _ a.to)))
 .intro done y v h B a;obtain⟨k,a⟩:=hJ (a.front (knX G Cf m M f c g y.2 e d l (.done,some (.exit 0)) (lS (M.bT i).known g=some y.2)));have a:=a.yG;rw[k] at n;have a:=(a.front (sp [aE f 0 [I g],aE c 0 [I y.2]])).Bn;exact Kt a fun h a=>Q4 rfl (am c a rfl (jW a fun h a=>iT (n _ a.to)))
end
end Go.Proofs.YtmhapehobfnoiaaGreatDoor
namespace Go.Proofs.YtmhapehobfnoiaaGreatDoor
open Go Go.Ab Go.Hm Go.At Go.Mc Go.Ct Go.Nt Go.Is
section
instance:Fx aQ.enc 9:=inferInstance
structure Gb (G:Bg):Prop where
 lim:Ob G 0 eY
 kin:Ob G 2 wP
 row:Ob G 3 iR
set_option maxRecDepth 100000
variable {G:Bg} {h:AH} {L L':List HP} {Q:Value->AH->Prop} {Cf:bQ} {m:Nat} {M:cX}
theorem Dk {α:Type} {R:Nat->Nat->α->HP} {l:List Nat} {s:Nat->α} {i q:Nat} {t:α} (a:i<l.length) (b:Hs G h L) [k:dX (R i q t) L L'] {N:List HP} [c:dX (A3 R l s i) L' N]:Hs G h (iY R (l.set i q) (cB s i t)::N):=qs a (b.bL (R i q t) (A3 R l s i))
theorem Eh {F:fV} {l:List aQ} (h:(fV.send Cf F l).2≠0):(fV.send Cf F l).1=F:=by
 unfold fV.send at h ⊢;split;rfl;rename_i a;rw[aLx a] at h;cases hp:fV.H4 Cf.depth F l with
 |none=>rfl
 |some b=>rw[hp] at h;exact absurd rfl h
theorem zh {i:Nat} {g:Int} (hC:Cf.Ok) (hG:Gb G) (A:(i:Int)<Cf.aD) (hb:(M.bT i).known.length<=100) (y:cv Cf M.iZ) (d:Hs G h L) [z:Has (bB G Cf m) L M L'] (k:∀w,Hs G w (bB G Cf m (M.walk Cf i g).1::L')->Q (I (M.walk Cf i g).2) w):Cl Pr K 208 [pt m 0 0,I i,I g] h Q:=by
 unfold cX.walk at k;obtain⟨x,r,d⟩:=cQ (z.of d);have j:i<x.lq.length:=by have:=r.2.2;omega
 refine cW (aB (aA (am m d rfl (zN d j ?_))));have d:=eR (R:=kG Cf) (l:=x.lq) (s:=M.bT) j d;refine wY (C:=Cf) (p:=x.lq.getD i 0) (s:=M.bT i) hb d fun q h d=>?_;refine Uj (C:=Cf) (p:=q) (s:=M.bT i) hC hb d fun h d=>aG rfl (aG rfl (aX (aT (fun v=>?_) (fun v=>?_))));rw[aLy v] at k;have d:=qE (Cf:=Cf) (l:=x.lq) (s:=M.bT) (i:=i) (t:=M.bT i) j d;rw[bS] at d;exact k _ (bI (m:=m) (x:=x) M r d).to;rw[aLx v] at k;refine bW (aB (aA (am m d rfl (aJ (c:=(fC 6 i ((M.bT i).begin Cf g).2.1).enc) rfl (aJ (c:=(fC 6 i ((M.bT i).begin Cf g).2.1).enc) rfl (dC (W:=9) (n:=1) (c:=1) d rfl rfl rfl fun a h d=>?_))))));have d:=mR (enc:=aQ.enc) (x:=fC 6 i ((M.bT i).begin Cf g).2.1) d;refine Ex (C:=Cf) (f:=x.fb) (F:=M.iZ) (l:=[fC 6 i ((M.bT i).begin Cf g).2.1]) (a:=some a) (c:=1) hC (y.Np hC) (by simp) hG.kin hG.lim d fun h d=>aX (aT (fun u=>?_) (fun u=>?_));dsimp only at k;rw[aLy u] at k;rw[Eh u] at d;have d:=qE (Cf:=Cf) (l:=x.lq) (s:=M.bT) (i:=i) (t:=M.bT i) j d;rw[bS] at d;exact k _ (bI (m:=m) (x:=x) M r d).to;dsimp only at k;rw[aLx u] at k;refine bW (aB (aA (am m d rfl (Rj d j fun h d=>k _ ?_))));have d:=Dk (R:=kG Cf) (l:=x.lq) (s:=M.bT) (i:=i) (q:=q) (t:=((M.bT i).begin Cf g).1) j d;have e:eW Cf x M.log.length=eW Cf {x with lq:=x.lq.set i q} M.log.length:=by unfold eW;rw[List.length_set]
 rw[e] at d;exact(bI (m:=m) (x:={x with lq:=x.lq.set i q}) ((M.dT (fV.send Cf M.iZ [fC 6 i ((M.bT i).begin Cf g).2.1]).1).B6 i ((M.bT i).begin Cf g).1) ⟨r.1,r.2.1,by rw[List.length_set];exact r.2.2⟩ d).to
end
section
set_option maxRecDepth 100000
variable {G:Bg} {h:AH} {L L':List HP} {Q:Value->AH->Prop} {Cf:bQ} {m:Nat} {M:cX}
theorem Ty {l:List Nat} {S:Nat->bE} {i:Nat} {k:Value->Prop} (e:i<l.length) (d:Hs G h L) [g:Has (iY mQ l) L S L'] (f:k (I (S i).world)):bA (lT (pt (l.getD i 0) 0 0)) fun v=>bA (fZ 0 v) fun v=>bA (fZ 5 v) fun v=>bA (ld1 h v) k:=by
 have d:=eR (R:=mQ) (l:=l) (s:=S) e d;obtain⟨a,c,d⟩:=mX d;exact aB (aA (aA (aC (b:=l.getD i 0) (o:=0) d rfl f)))
theorem tO {l:List Nat} {s:Nat->jJ} {i:Nat} {t:jJ} (a:i<l.length) (b:Hs G h L) [k:dX (C.gC G (l.getD i 0) Cf i t) L L'] {N:List HP} [c:dX (A3 (kK G Cf) l s i) L' N]:Hs G h (iY (kK G Cf) l (cB s i t)::N):=uF a (b.bL (C.gC G (l.getD i 0) Cf i t) (A3 (kK G Cf) l s i))
theorem qn {i:Nat} {line:Int} {wr:Bool} (hC:Cf.Ok) (hG:Gb G) (B:(i:Int)<Cf.aD) (hb:mF Cf (M.cC i)) (z:cv Cf M.iZ) (d:Hs G h L) [A:Has (bB G Cf m) L M L'] (j:∀y,Hs G y (bB G Cf m (M.want Cf i line wr).1::L')->Q (I (M.want Cf i line wr).2) y):Cl Pr K 211 [pt m 0 0,I i,I line,.bool wr] h Q:=by
 unfold cX.want at j;have n:Bd (M.cC i):=hb.bd (lG hC).2.2.2;obtain⟨x,k,d⟩:=cQ (A.of d);have r:i<x.lc.length:=by have:=k.1;omega
 have g:i<x.lk.length:=by have:=k.2.1;omega
 refine cW (aB (aA (am m d rfl (zE d g ?_))));have d:=eR (R:=kK G Cf) (l:=x.lk) (s:=M.cC) g d;refine C.Qf (C:=Cf) (core:=(i:Int)) (c:=x.lk.getD i 0) (s:=M.cC i) hC n d fun q h d=>?_;refine aB (aA (am m d rfl (Bt d r (Ty (l:=x.lc) (S:=M.aR) r d ?_))));refine C.aBu (C:=Cf) (core:=(i:Int)) (c:=q) (s:=M.cC i) hC n hG.lim hG.row d fun a c h d=>aG rfl (aG rfl (aX (aT (fun v=>?_) (fun v=>?_))));rw[aLy v] at j;have d:=tO (Cf:=Cf) (l:=x.lk) (s:=M.cC) (i:=i) (t:=M.cC i) g d;rw[bS] at d;exact j _ (bI (m:=m) (x:=x) M k d).to;rw[aLx v] at j;have d:Hs G h (mZ a c (want Cf i (M.cC i) line (M.aR i).world wr).2.1::_):=d;refine bW (aB (aA (am m d rfl ?_)));refine Ex (C:=Cf) (f:=x.fb) (F:=M.iZ) (l:=(want Cf i (M.cC i) line (M.aR i).world wr).2.1) (a:=a) (c:=c) hC (z.Np hC) (by have:=uc (C:=Cf) (core:=(i:Int)) (s:=M.cC i) (l:=line) (w:=(M.aR i).world) (wr:=wr);omega) hG.kin hG.lim d fun h d=>aX (aT (fun u=>?_) (fun u=>?_));dsimp only at j;rw[aLy u] at j;rw[Eh u] at d;have d:=tO (Cf:=Cf) (l:=x.lk) (s:=M.cC) (i:=i) (t:=M.cC i) g d;rw[bS] at d;exact j _ (bI (m:=m) (x:=x) M k d).to;dsimp only at j;rw[aLx u] at j;refine bW (aB (aA (am m d rfl (ff d g fun h d=>j _ ?_))));have d:=Dk (R:=kK G Cf) (l:=x.lk) (s:=M.cC) (i:=i) (q:=q) (t:=(want Cf i (M.cC i) line (M.aR i).world wr).1) g d;have e:eW Cf x M.log.length=eW Cf {x with lk:=x.lk.set i q} M.log.length:=by unfold eW;rw[List.length_set]
 rw[e] at d;exact(bI (m:=m) (x:={x with lk:=x.lk.set i q}) ((M.dT (fV.send Cf M.iZ (want Cf i (M.cC i) line (M.aR i).world wr).2.1).1).tA i (want Cf i (M.cC i) line (M.aR i).world wr).1) ⟨k.1,by rw[List.length_set];exact k.2.1,k.2.2⟩ d).to
end
section
theorem X4 {g:Int} {i:Nat}:(List.range (i+1)).map (fun i:Nat=>fC 13 i g)=(List.range i).map (fun i:Nat=>fC 13 i g)++[fC 13 i g]:=by
 rw[List.range_succ,List.map_append];rfl
set_option maxRecDepth 100000
variable {G:Bg} {h:AH} {L L':List HP} {Q:Value->AH->Prop} {Cf:bQ} {m:Nat} {M:cX}
theorem xc {i:Nat} {a:Mc.Ask} (hC:Cf.Ok) (hG:Gb G) (R:(i:Int)<Cf.aD) (N:gX Cf M.dG) (U:(M.aR i).Ok) (v:M.log.length<=2^30) (O:cv Cf M.iZ) (d:Hs G h L) [Y:Has (bB G Cf m) L M L'] (g:∀t,Hs G t (bB G Cf m (M.call Cf i a).1::L')->Q (I (M.call Cf i a).2) t):Cl Pr K 165 [pt m 0 0,I i,.agg ⟨a.enc⟩] h Q:=by
 unfold cX.call at g;have Z:=hC.1;refine cW (dL (Y.of d) fun D h d=>?_);obtain⟨x,B,d⟩:=cQ (d.front (bB G Cf m M));refine aB (aA (am m d rfl (Bp (C:=Cf) (m:=M.dG) hC N d fun q h d=>?_)));have V:=d.tail;refine an D d (l:=a.enc) rfl rfl (bf (C:=Cf) (m:=M.dG) (p:=q) hC N d fun h d=>aG rfl (aG rfl (aX (aT (fun E=>?_) (fun E=>?_)))));rw[aLy E] at g;have d:=bI (m:=m) (x:=x) M B d;exact nH (Cf:=Cf) (M:=M) R U v d fun h d=>g _ d.to;rw[aLx E] at g;generalize P:M.dG.call Cf.aD a=rc at g d;have loop:∀(f j:Nat) (h:AH) (b:Option Addr) (c:Nat),j+f=Cf.aD.toNat->Hs G h (mZ b c ((List.range j).map fun i:Nat=>fC 13 i a.cN)::fD Cf q rc.1::aE m 0 (eW Cf x M.log.length)::Ug x.ac x.cc x.lc::Ot x.ak x.ck x.lk::Oo x.aq x.cq x.lq::
   iY mQ x.lc M.aR::iY (kK G Cf) x.lk M.cC::iY (kG Cf) x.lq M.bT::H.fO G x.hb Cf M.home::fD Cf x.mb M.dG::lI Cf x.fb M.iZ::Bo x.al x.cl M.log::aE D 0 a.enc::L')->
   Dd 165 2 [] Q [(pt m 0 0),(pt D 0 0),(pt q 0 0),(.slice b j c),(I Cf.aD),(I j)] h:=by
  intro f
  induction f with
  |zero=>
   intro j h b c S d
   have J:j=Cf.aD.toNat:=by omega
   have r:((List.range j).map fun i:Nat=>fC 13 i a.cN)=Om Cf.aD a.cN:=by rw[J];rfl
   rw[r] at d
   have u:(Om Cf.aD a.cN).length=j:=by rw[<-r];simp
   refine bW (aI (aaa (bW (aB (aA (am m d rfl ?_))))))
   rw[<-u]
   refine Ex (C:=Cf) (f:=x.fb) (F:=M.iZ) (l:=Om Cf.aD a.cN) (a:=b) (c:=c) hC (O.Np hC) (by omega) hG.kin hG.lim d fun h d=>aX (aT (fun A=>?_) (fun A=>?_))
   .dsimp only at g;rw[aLy A] at g;rw[Eh A] at d;exact g _ (bI (m:=m) (x:=x) M B d).to
   .dsimp only at g;rw[aLx A] at g;refine bW (aB (aA (ay (b:=m) (o:=0) d fun h d=>g _ ?_)));have e:dT (eW Cf x M.log.length) (0+11) [pt q 0 0]=eW Cf {x with mb:=q} M.log.length:=rfl;rw[e] at d;exact(bI (m:=m) (x:={x with mb:=q}) ((M.dT (fV.send Cf M.iZ (Om Cf.aD a.cN)).1).oF rc.1) B d).to
  |succ f X=>
   intro j h b c S d
   refine bW (aI (aad (bW (aA (am D d rfl (aJ (c:=(fC 13 j a.cN).enc) rfl (aJ (c:=(fC 13 j a.cN).enc) rfl (dC (W:=9) (n:=1) (c:=1) d rfl rfl rfl fun y h d=>?_))))))))
   have d:=mR (enc:=aQ.enc) (x:=fC 13 j a.cN) d
   have r:((List.range j).map fun i:Nat=>fC 13 i a.cN).length=j:=by simp
   have ap:∀k:Value×AH->Prop,(∀w z t,Hs G t (mZ w z ((List.range j).map (fun i:Nat=>fC 13 i a.cN)++[fC 13 j a.cN])::mZ (some y) 1 [fC 13 j a.cN]::_)->k (.slice w ((List.range j).map (fun i:Nat=>fC 13 i a.cN)++[fC 13 j a.cN]).length z,t))->bA (iK 9 72 162 h (.slice b ((List.range j).map fun i:Nat=>fC 13 i a.cN).length c) (.slice (some y) [fC 13 j a.cN].length 1)) k:=fun k g=>kL (enc:=aQ.enc) (e:=162) (l:=(List.range j).map fun i:Nat=>fC 13 i a.cN) (l2:=[fC 13 j a.cN]) (a:=b) (c:=c) (a2:=some y) (c2:=1) d (by simp;omega) g
   rw[r] at ap
   refine ap _ fun w z h d=>aac ?_
   rw[<-X4] at d ⊢
   have:=X (j+1) h w z (by omega) d.to
   rw[show((List.range (j+1)).map fun i:Nat=>fC 13 i a.cN).length=j+1 by simp]
   exact this
 have T:x.lc.length=Cf.aD.toNat:=B.1;refine bW (aB (aA (am m d rfl (bH ?_))));have d:Hs G h (mZ none 0 ((List.range 0).map fun i:Nat=>fC 13 i a.cN)::_):=jB (enc:=aQ.enc) (e:=162) d;have e:(x.lc.length:Int)=Cf.aD:=by omega
 rw[e];exact loop Cf.aD.toNat 0 h none 0 (by omega) d.to
end
end Go.Proofs.YtmhapehobfnoiaaGreatDoor
end
