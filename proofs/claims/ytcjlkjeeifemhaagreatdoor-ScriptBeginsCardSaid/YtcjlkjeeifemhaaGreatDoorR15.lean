/- A part of the proof. -/
import Derived.Test.YtcjlkjeeifemhaaGreatDoorR14
import Derived.Test.YtcjlkjeeifemhaaGreatDoorR9
import Derived.Test.YtcjlkjeeifemhaaGreatDoorR7
import Derived.Test.YtcjlkjeeifemhaaGreatDoorR10
import Derived.Test.YtcjlkjeeifemhaaGreatDoorR6
section
open Go Go.Ab
attribute [local irreducible] aY Br oM tU tZ Bj kK tW jJ Oy gO lN oP nQ nD iK vN tD I5 Q2 Nf M1 Sb Nl J1 Nj Pc kA mM qI iH copyV gW uU S4 S7 Fa jD Le O1 Ta lS oS wJ yB Cl yG Rz qY qM iP eP cI bS
namespace Go.Proofs.YtcjlkjeeifemhaaGreatDoor.H
open Go Go.Ab Go.Hm
section
set_option maxRecDepth 100000
variable {G:Bg} {h:AH} {L L':List HP}
def eF (v:Value) (l:List aK):HP:=tV fun x:Option Addr×Nat=>sp [uH (v= .slice x.1 l.length x.2),cU 9 211 x.1 x.2 (l.length,eA l)]
theorem F6 {a:Option Addr} {c n:Nat} {l:List aK} {cs:List Value} (e:n=l.length) (hc:cs=eA l) (f:Hs G h (cU 9 211 a c (n,cs)::L)):Hs G h (eF (.slice a n c) l::L):=by
 subst e;subst hc;exact Hs.vA (A:=fun x:Option Addr×Nat=>sp [uH (Value.slice a l.length c=Value.slice x.1 l.length x.2),cU 9 211 x.1 x.2 (l.length,eA l)]) (a,c) (Hs.pack (A:=[_,_]) (Hs.T2 rfl f))
theorem zi {v:Value} {l:List aK} (e:Hs G h (eF v l::L)):∃a c,v= .slice a l.length c/\Hs G h (cU 9 211 a c (l.length,eA l)::L):=by
 obtain⟨⟨a,c⟩,e⟩:=e.yP;obtain⟨f,e⟩:=Hs.jr e.unpack;exact⟨a,c,f,e⟩
theorem Up {line state:Int} {l:List Nat} {i:Nat}:gJ line state (l++[i])=gJ line state l++[⟨11,i,line,0,state,0,0,false,0⟩]:=by simp[gJ,aK.zero]
theorem aG3 {f:Nat->Bool} {i j:Nat} {v:Bool}:wY f i v j=if j=i then v else f j:=by
 simp only[wY,Int.ofNat_inj]
theorem V8 {r:Row} {l:List Nat} {i:Nat}:r.gP (l++[i])={r.gP l with asked:=wY (r.gP l).asked i true}:=by
 simp only[Row.gP,Row.mk.injEq,true_and,and_true];funext j;simp only[aG3,List.contains_append];by_cases h:j=i;subst h;simp;simp[h]
theorem aD3 {b o i:Nat} {r:Row} {a:Option Addr} {c:Nat} {v:Bool} {k:AH->Prop} (e:Hs G h L) [m:Has (aF b (o+5)) L (r.Kq a c) L'] (q:i<4) (g:∀f,Hs G f (aF b (o+5) (({r with asked:=wY r.asked i v}:Row).Kq a c)::L')->k f):aY (tZ h 1 (pt b o (17+(i:Int).toNat*1)) (.bool v)) k:=by
 have e:=m.of e;rw[aJs (m:=5) (by omega)];have:i=0\/i=1\/i=2\/i=3:=by omega
 rcases this with rfl|rfl|rfl|rfl;all_goals
  refine ay e ?_
  exact g
def prC (b o p2 p5 p8 f:Nat) (line state:Int) (r:Row) (xs:List Nat) (e:Nat->Value) (d l:Nat) (rest:List (List Value)) (done:List Nat) (a:Option Addr) (c:Nat):List HP:=
 [uH (rest=(xs.drop done.length).map fun(c:Nat)=>[I c]),uH (xs.take done.length=done),
    kE Pr 237 (kI 58) 26 e d l (.ready,none),aF p2 0 [pt b o 0],aF p5 0 [I line],aF p8 0 [I state],Jy b o (r.gP done),
    aF f 0 [.slice a done.length c],cU 9 211 a c (done.length,eA (gJ line state done))]
def prI (b o p2 p5 p8 a:Nat) (line state:Int) (r:Row) (xs:List Nat) (e:Nat->Value) (d l:Nat) (rest:List (List Value)):HP:=
 tV fun x:List Nat×Option Addr×Nat=>sp (prC b o p2 p5 p8 a line state r xs e d l rest x.1 x.2.1 x.2.2)
theorem aJg {b o p2 p5 p8 f:Nat} {line state:Int} {r:Row} {xs:List Nat} {e:Nat->Value} {d l:Nat} {rest:List (List Value)} (done:List Nat) (a:Option Addr) (c:Nat) (g:rest=(xs.drop done.length).map fun(c:Nat)=>[I c]) (i:xs.take done.length=done)
  (k:Hs G h (sp ((prC b o p2 p5 p8 f line state r xs e d l rest done a c).drop 2)::L)):Hs G h (prI b o p2 p5 p8 f line state r xs e d l rest::L):=
 Hs.vA (done,a,c) (nJ g (nJ i k))
theorem aDy {b o p2 p5 p8 g:Nat} {line state:Int} {r:Row} {xs:List Nat} {e:Nat->Value} {d l:Nat} {rest:List (List Value)} (f:Hs G h (prI b o p2 p5 p8 g line state r xs e d l rest::L)):∃done a c,(rest=(xs.drop done.length).map fun(c:Nat)=>[I c])/\xs.take done.length=done/\
  Hs G h (kE Pr 237 (kI 58) 26 e d l (.ready,none)::aF p2 0 [pt b o 0]::aF p5 0 [I line]::aF p8 0 [I state]::Jy b o (r.gP done)::aF g 0 [.slice a done.length c]::cU 9 211 a c (done.length,eA (gJ line state done))::L):=by
 obtain⟨⟨done,a,c⟩,f⟩:=Hs.yP f
 obtain⟨i,f⟩:=eV f
 obtain⟨k,f⟩:=eV f
 exact⟨done,a,c,i,k,f.unpack⟩
theorem Dp {b o:Nat} {line state:Int} {r:Row} {g:FuncId} {k:List Value} {A:HP} {xs:List Nat} {Q:Value->AH->Prop} (X:ez Pr K G g [] k A (xs.map fun(c:Nat)=>[I c])) (U:∀c∈xs,c<4) (V:xs.length<=4) (P:fX Pr g=true)
  (f:Hs G h (A::Jy b o r::L)) (R:∀v t,Hs G t (eF v (gJ line state xs)::A::Jy b o (r.gP xs)::L)->Q v t):
  Cl Pr K 237 [pt b o 0,I line,I state,.func (.func g) #[] ⟨k⟩] h Q:=by
 refine cW ?_
 refine dB f fun Y h f=>dB f fun Z h f=>dB f fun p8 h f=>bG f fun B h f=>jM f fun d h f=>?_
 intro e O
 refine lY f fun l h f=>?_
 refine rL P ?_
 have f:=fG (W:=9) (e:=211) f
 have E:r.gP []=r:=by simp[Row.gP]
 have z:Hs G h (A::prI b o Y Z p8 B line state r xs e d l (xs.map fun(c:Nat)=>[I c])::mk d ()::L):=by
  refine Hs.jN (aJg [] none 0 rfl rfl ?_);rw[<-E] at f;simp only[prC,List.drop_succ_cons,List.drop_zero,List.length_nil,gJ,List.map_nil,Py];exact f.to
 refine X _ (uH False) _ _ h _ z ?_ ?_ ?_
 .intro x rest h M f;obtain⟨done,a,c,q,w,T⟩:=aDy f;clear f;cases hx2:xs.drop done.length with
  |nil=>rw[hx2] at q;cases q
  |cons i s=>
   rw[hx2] at q
   simp only[List.map_cons,List.cons.injEq] at q
   obtain⟨rfl,rfl⟩:=q
   have y:i<4:=U i (List.mem_of_mem_drop (by rw[hx2];exact List.mem_cons_self))
   have N:done.length<xs.length:=by
    rcases Nat.lt_or_ge done.length xs.length with h|h;exact h;rw[List.drop_eq_nil_of_le h] at hx2;cases hx2
   obtain⟨D,c2,f⟩:=Ph (T.perm (dQ.perm (A:=Jy b o (r.gP done))))
   refine rW (rK f) O ?_
   refine gS f fun h f=>aC f rfl (aB (aA (iI (by omega) (by omega) ?_)))
   rw[Nat.zero_add]
   refine aD3 f y fun h f=>aC f rfl (aC f rfl (aC f rfl (aI (c:=aK.enc ⟨11,i,line,0,state,0,0,false,0⟩) rfl (aI (c:=aK.enc ⟨11,i,line,0,state,0,0,false,0⟩) rfl ?_))))
   refine dA f rfl rfl rfl ?_
   intro a3 h f
   refine nY f (by omega) ?_
   intro a4 c4 h f
   dsimp only
   refine ax f ?_
   intro h f
   refine gV f ?_
   intro h f
   refine .inl ⟨rfl,?_⟩
   rw[<-V8] at f
   have f:=X7 (r.gP (done++[i])) (f.cF (aF b (o+5) ((r.gP (done++[i])).Kq D c2)) (cU 9 211 D c2 ((r.gP done).waits.length,eA (r.gP done).waits)))
   have S:(done++[i]).length=done.length+1:=by simp
   have u:xs=done++i::s:=by have:=List.take_append_drop done.length xs;rw[w,hx2] at this;exact this.symm
   refine aJg (done++[i]) a4 c4 ?_ ?_ ?_
   .have:xs=(done++[i])++s:=by simp[u]
    rw[this,List.drop_left]
   .have:xs=(done++[i])++s:=by simp[u]
    rw[this,List.take_left]
   .simp only[prC,List.drop_succ_cons,List.drop_zero,S,Up,xM,Jd,Py,List.append_nil];exact f.to
 .intro v t f;obtain⟨done,a,c,q,w,f⟩:=aDy f.jN;have J:xs=done:=by
   have:xs.drop done.length=[]:=by simpa using q.symm
   rw[<-w,List.take_of_length_le (by simpa using this)]
  subst J
  refine mC f fun t f=>lT ?_
  refine aC f rfl (kN f fun t f=>iF ?_)
  refine R _ _ ?_
  have F:(gJ line state xs).length=xs.length:=by simp[gJ]
  have f:=F6 (l:=gJ line state xs) F.symm rfl (f.perm (dQ.perm (A:=cU 9 211 a c (xs.length,eA (gJ line state xs)))))
  exact f.to
 .intro v t f;exact(Hs.jr (f.jN)).1.elim
end
section
set_option maxRecDepth 100000
variable {G:Bg} {h:AH} {L L':List HP}
theorem bt {b o:Nat} {x:Int} {c':List Value} {a:Option Addr} {c:Nat} {v:Bool} {k:AH->Prop} (r:Row) (g:Hs G h L) [m:Has (aF b o) L c' L'] (hc:c'=r.enc a c) (i:0<=x/\x<4) (f:∀e,Hs G e (aF b o (({r with sh:=wY r.sh x v}:Row).enc a c)::L')->k e):aY (tZ h 1 (pt b o (0+1+x.toNat*1)) (.bool v)) k:=by
 subst hc;have:x=0\/x=1\/x=2\/x=3:=by omega
 rcases this with rfl|rfl|rfl|rfl;all_goals
  refine ay g ?_
  exact f
theorem aFh {b o:Nat} {x:Int} {c':List Value} {a:Option Addr} {c:Nat} {v:Bool} {k:AH->Prop} (r:Row) (g:Hs G h L) [m:Has (aF b o) L c' L'] (hc:c'=r.enc a c) (i:0<=x/\x<4) (f:∀e,Hs G e (aF b o (({r with asked:=wY r.asked x v}:Row).enc a c)::L')->k e):aY (tZ h 1 (pt b o (0+17+x.toNat*1)) (.bool v)) k:=by
 subst hc;have:x=0\/x=1\/x=2\/x=3:=by omega
 rcases this with rfl|rfl|rfl|rfl;all_goals
  refine ay g ?_
  exact f
def lF (mb:Nat) (C:bM) (b o cap:Nat):List Value:=[pt mb 0 0,I C.aG,I C.bU,I C.bK,I C.ways,I C.depth,I C.entries,I C.aL,.slice (some ⟨b,o,none⟩) C.lines cap]
structure HmA where
 mb:Nat
 b:Nat
 o:Nat
 cap:Nat
def aEw (G:Bg) (hb:Nat) (C:bM) (H:kP) (x:HmA):List HP:=
 [aF hb 0 (lF x.mb C x.b x.o x.cap),fJ G C.lines x.mb C (fun i=>(H i).2),hole G 25 230 (some ⟨x.b,x.o,none⟩) x.cap C.lines x.b x.o,dC C.lines fun i=>eC x.b (x.o+i*25) (H i).1]
def fP (G:Bg) (hb:Nat) (C:bM) (H:kP):HP:=tV fun x:HmA=>sp (aEw G hb C H x)
def yX (b o n:Nat) (H:kP) (l:Nat):HP:=sp (((List.range n).erase l).map fun i=>eC b (o+i*25) (H i).1)
theorem oA {hb:Nat} {C:bM} {H:kP} (a:Hs G h (fP G hb C H::L)):∃mb b o cap,Hs G h (aF hb 0 (lF mb C b o cap)::fJ G C.lines mb C (fun i=>(H i).2)::hole G 25 230 (some ⟨b,o,none⟩) cap C.lines b o::dC C.lines (fun i=>eC b (o+i*25) (H i).1)::L):=by
 obtain⟨⟨mb,b,o,cap⟩,a⟩:=a.yP;exact⟨mb,b,o,cap,a.unpack⟩
theorem D9 {hb l:Nat} {C:bM} {H:kP} (c:l<C.lines) (a:Hs G h (fP G hb C H::L)):∃mb b o cap,Hs G h (eC b (o+l*25) (H l).1::aF hb 0 (lF mb C b o cap)::fJ G C.lines mb C (fun i=>(H i).2)::hole G 25 230 (some ⟨b,o,none⟩) cap C.lines b o::yX b o C.lines H l::L):=by
 obtain⟨mb,b,o,cap,a⟩:=oA a;have a:=(a.front (dC C.lines fun i=>eC b (o+i*25) (H i).1)).mD l c;exact⟨mb,b,o,cap,(show Hs G h (eC b (o+l*25) (H l).1::yX b o C.lines H l::_) from a).to⟩
theorem sH {hb:Nat} {C:bM} {H:kP} {mb b o cap:Nat} (a:Hs G h (aF hb 0 (lF mb C b o cap)::fJ G C.lines mb C (fun i=>(H i).2)::hole G 25 230 (some ⟨b,o,none⟩) cap C.lines b o::dC C.lines (fun i=>eC b (o+i*25) (H i).1)::L)):Hs G h (fP G hb C H::L):=
 Hs.vA (A:=fun x=>sp (aEw G hb C H x)) ⟨mb,b,o,cap⟩ (Hs.pack (A:=aEw G hb C H ⟨mb,b,o,cap⟩) a)
theorem mem_of {H:kP} {l:Nat} {x:sV}:(fun i=>(bY H l x i).2)=bY (fun i=>(H i).2) l x.2:=by
 funext i;unfold bY;split<;>rfl
theorem eD {f L2 g k c:List HP} (hb:Nat) (C:bM) (H:kP) (l:Nat) (r:Row) (m:Ln) (mem:Nat->Ln) (mb b o cap:Nat) (s:l<C.lines) (t:mem=bY (fun i=>(H i).2) l m) (a:Hs G h L) [u:dQ (eC b (o+l*25) r) L f] [v:dQ (aF hb 0 (lF mb C b o cap)) f L2] [w:dQ (fJ G C.lines mb C mem) L2 g]
  [y:dQ (hole G 25 230 (some ⟨b,o,none⟩) cap C.lines b o) g k] [z:dQ (yX b o C.lines H l) k c]:Hs G h (fP G hb C (bY H l (r,m))::c):=by
 subst t
 have a:Hs G h (eC b (o+l*25) r::yX b o C.lines H l::aF hb 0 (lF mb C b o cap)::fJ G C.lines mb C (bY (fun i=>(H i).2) l m)::hole G 25 230 (some ⟨b,o,none⟩) cap C.lines b o::c):=
  (a.perm (u.perm.trans ((v.perm.trans ((w.perm.trans ((y.perm.trans (z.perm.cons _)).cons _)).cons _)).cons _))).to
 have q:(fun i=>eC b (o+i*25) (bY H l (r,m) i).1) l=eC b (o+l*25) r:=by simp only[jA]
 rw[<-q] at a
 unfold yX at a
 have a:=a.oZ (n:=C.lines) (i:=l) (fun i=>eC b (o+i*25) (H i).1) (fun i=>eC b (o+i*25) (bY H l (r,m) i).1) s (fun j _ e=>by simp only[Bh e])
 rw[<-mem_of (x:=(r,m))] at a
 exact sH (mb:=mb) (b:=b) (o:=o) (cap:=cap) a.to
theorem B4 {a:Addr} {n:aK} {cs:List Value} (hc:cs=n.enc) (c:Hs G h (cU 9 211 (some a) 1 (1,cs)::L)):Hs G h (eF (.slice (some a) 1 1) [n]::L):=F6 rfl (by rw[hc];simp) c
theorem pP (a:Hs G h L):Hs G h (eF (.slice none 0 0) []::L):=F6 rfl rfl (fG a)
section
variable {b o p:Nat} {r:Row} {wa:Option Addr} {wc:Nat} {line:Int} {d:Ln} {Q:Value->AH->Prop}
theorem dU (b o:Nat) (r:Row) (a:Option Addr) (c:Nat) {c':List Value} {n:Nat} {cs:List Value} {f L2:List HP} (i:Hs G h L) [m:Has (aF b o) L c' f] (hc:c'=r.enc a c) [m2:Has (cU 9 211 a c) f (n,cs) L2] (g:n=r.waits.length) (e:cs=eA r.waits):Hs G h (eC b o r::L2):=by
 subst hc;subst g;subst e;exact jH r (i.perm (m.perm.trans (m2.perm.cons _)))
theorem aDm (e:r.served.kind=2) (c:Hs G h (aF p 0 (r.pF line 0 d).enc::aF b o (r.enc wa wc)::cU 9 211 wa wc (r.waits.length,eA r.waits)::L)) (g:∀v f,Hs G f (eF v (r.gH line d).2::eC b o (r.gH line d).1::L)->Q v f):
  Dd 307 3 [] Q [(pt b o 0),(I r.served.core),(pt p 0 0)] h:=by
 simp only[Row.gH,aNa e] at g
 refine bW ?_
 repeat' first
  |refine aA ?_
  |refine aB ?_
  |refine aN c (by decide) rfl rfl ?_
  |(refine ay c ?_;intro h c)
  |(refine dA c rfl rfl rfl ?_;intro a h c)
  |refine aI rfl ?_
 refine g _ _ ?_
 have c:=B4 (n:=r.pF line 4 d) rfl c
 exact(dU b o {r with owner:=r.served.core,sh:=fun _=>false,granted:=true} wa wc c rfl rfl rfl).to
theorem aC2 (g:r.served.kind≠2) (hc:0<=r.served.core/\r.served.core<4) (c:Hs G h (aF p 0 (r.pF line 0 d).enc::aF b o (r.enc wa wc)::cU 9 211 wa wc (r.waits.length,eA r.waits)::L)) (e:∀v i,Hs G i (eF v (r.gH line d).2::eC b o (r.gH line d).1::L)->Q v i):
  Dd 307 4 [] Q [(pt b o 0),(I r.served.core),(pt p 0 0)] h:=by
 simp only[Row.gH,aN9 g] at e
 have c:=dU b o r wa wc c rfl rfl rfl
 refine bW (vR c fun c=>?_)
 obtain⟨wa,wc,c⟩:=dK c
 refine aZ (aQ (fun f=>?_) (fun f=>?_))
 .rw[aNa f] at e;refine bW (aA (ay c ?_));intro h c;refine aB (aA (ay c ?_));intro h c;refine aB (aA (iI hc.1 hc.2 (bt {r with owner:=r.served.core} c rfl hc ?_)));intro h c;repeat' first
   |refine aA ?_
   |refine aB ?_
   |refine aN c (by decide) rfl rfl ?_
   |(refine ay c ?_;intro h c)
   |(refine dA c rfl rfl rfl ?_;intro a h c)
   |refine aI rfl ?_
  refine e _ _ ?_
  have c:=B4 (n:=r.pF line 2 d) rfl c
  exact(dU b o {r with owner:=r.served.core,sh:=wY r.sh r.served.core false,granted:=true} wa wc c rfl rfl rfl).to
 .rw[aN9 f] at e;refine bW (aA (ay c ?_));intro h c;refine aB (aA (iI hc.1 hc.2 (bt r c rfl hc ?_)));intro h c;repeat' first
   |refine aA ?_
   |refine aB ?_
   |refine aN c (by decide) rfl rfl ?_
   |(refine ay c ?_;intro h c)
   |(refine dA c rfl rfl rfl ?_;intro a h c)
   |refine aI rfl ?_
  refine e _ _ ?_
  have c:=B4 (n:=r.pF line 1 d) rfl c
  exact(dU b o {r with sh:=wY r.sh r.served.core true,granted:=true} wa wc c rfl rfl rfl).to
end
theorem eJ {H:kP} {l:Nat}:bY (fun i=>(H i).2) l (H l).2=fun i=>(H i).2:=F5
theorem Em {C:bM} (hC:C.Ok) {hb l:Nat} {H:kP} {Q:Value->AH->Prop} (k:Ob G 1 gA) (a:Hs G h L) [m:Has (fP G hb C) L H L'] (s:l<C.lines) (hc:0<=(H l).1.served.core/\(H l).1.served.core<4)
  (w:∀v e,Hs G e (eF v ((H l).1.gH l ((H l).1.Z9 (H l).2)).2::fP G hb C (bY H l (((H l).1.gH l ((H l).1.Z9 (H l).2)).1,(H l).2))::L')->Q v e):
  Cl Pr K 307 [pt hb 0 0,I l] h Q:=by
 obtain⟨mb,b,o,cap,a⟩:=D9 s (m.of a)
 refine cW ?_
 have q:∀d,d=(H l).1.Z9 (H l).2->∀p wa wc h,Hs G h (aF p 0 ((H l).1.pF l 0 d).enc::aF b (o+l*25) ((H l).1.enc wa wc)::cU 9 211 wa wc ((H l).1.waits.length,eA (H l).1.waits)::aF hb 0 (lF mb C b o cap)::fJ G C.lines mb C (fun i=>(H i).2)::hole G 25 230 (some ⟨b,o,none⟩) cap C.lines b o::yX b o C.lines H l::L')->
   (((H l).1.served.kind=2->Dd 307 3 [] Q [(pt b (o+l*25) 0),(I (H l).1.served.core),(pt p 0 0)] h)/\((H l).1.served.kind≠2->Dd 307 4 [] Q [(pt b (o+l*25) 0),(I (H l).1.served.core),(pt p 0 0)] h)):=by
  intro d u p wa wc h a
  subst u
  have g:∀v e,Hs G e (eF v ((H l).1.gH l ((H l).1.Z9 (H l).2)).2::eC b (o+l*25) ((H l).1.gH l ((H l).1.Z9 (H l).2)).1::aF hb 0 (lF mb C b o cap)::fJ G C.lines mb C (fun i=>(H i).2)::hole G 25 230 (some ⟨b,o,none⟩) cap C.lines b o::yX b o C.lines H l::L')->Q v e:=fun v e a=>
   w v e (eD hb C H l ((H l).1.gH l ((H l).1.Z9 (H l).2)).1 (H l).2 (fun i=>(H i).2) mb b o cap s eJ.symm a).to
  exact⟨fun f=>aDm f a g,fun f=>aC2 f hc a g⟩
 obtain⟨wa,wc,a⟩:=dK a
 refine aB (aA (aC a rfl (dF s (aB (aA (aA (aC a rfl ?_)))))))
 refine aU a ?_
 intro x h a
 refine aB (aA (aC a rfl (aB (aA (aN a (by decide) (l:=[I (H l).1.d0,I (H l).1.d1]) rfl rfl (aI (c:=((H l).1.pF l 0 ((H l).1.d0,(H l).1.d1)).enc) rfl ?_))))))
 refine kM a rfl rfl ?_
 intro p h a
 refine ax a ?_
 intro h a
 refine aB (aA (aC a rfl (bT (dT (cZ (fun t=>?_) (fun t=>?_))))))
 .refine bW (aB (aA (aA (aC a rfl (aZ ?_)))));have:=q ((H l).1.d0,(H l).1.d1) (by simp[Row.Z9,t]) p wa wc h a.to;exact aQ this.1 this.2
 .refine bW (aB (aA (aC a rfl (aC8 hC k a s fun h a=>?_))));refine aH rfl (aH rfl (aA (ay a ?_)));intro h a;refine aB (aA (aA (aC a rfl (aZ ?_))));have:=q (H l).2 (by simp[Row.Z9,t]) p wa wc h (a.sg (b:=p) (o:=0) (c:=((H l).1.pF l 0 (H l).2).enc) rfl).to;exact aQ this.1 this.2
end
section
set_option maxRecDepth 100000
variable {G:Bg} {h:AH} {L L':List HP}
def Nv (e:TypeId) (p:Nat) (a:Option Addr) (c:Nat) (xs:List Int):HP:=sp [aF p 0 [.slice a xs.length c],cU 1 e a c (xs.length,xs.map I)]
theorem Pn {e:TypeId} {a:Option Addr} {c n:Nat} {xs:List Int} {Q:Value->AH->Prop} (k:n=xs.length) (f:Hs G h L) [m:Has (cU 1 e a c) L (n,xs.map I) L'] (i:∀p g,Hs G g (Nv e p a c xs::L')->Q (.func (.func 338) #[] #[pt p 0 0]) g):Cl Pr K 272 [.slice a n c] h Q:=by
 subst k;have f:=m.of f;refine cW (dB f ?_);intro p h f;exact i p _ (Hs.pack (A:=[_,_]) f)
theorem Ez {e:TypeId} {p:Nat} {a:Option Addr} {c:Nat} {xs:List Int} (E:xs.length<2^62):ez Pr K G 338 [] [pt p 0 0] (Nv e p a c xs) (xs.map fun x=>[I x]):=by
 intro s J y L h Q g B u w;refine cW ?_;refine aC g.unpack rfl (bH ?_);have loop:∀(f i:Nat) (h:AH),i+f=xs.length->Hs G h (Nv e p a c xs::s ((xs.drop i).map fun x=>[I x])::L)->Dd 338 1 [] Q [y,(.slice a xs.length c),(I xs.length),(I i)] h:=by
  intro f;induction f with
  |zero=>
   intro i h z g;refine bW (aM (aaa ?_));rw[List.drop_eq_nil_of_le (by omega)] at g;exact u _ _ g
  |succ f D=>
   intro i h z g;have k:i<xs.length:=by omega
   refine bW (aM (aad (bW ?_)));obtain⟨b,o,rfl,H,q,_⟩:=(g.unpack.front (cU 1 e a c (xs.length,xs.map I))).oJ (by omega);refine dF k (aE8 q (v:=I xs[i]) (by simp[k]) ?_);rw[List.drop_eq_getElem_cons k] at g;refine(B _ _ h _ g.jN).mono fun v t A=>?_;rcases A with⟨rfl,g⟩|⟨rfl,g⟩;exact bT (bX (bW (aac (D (i+1) t (by omega) g.jN))));exact bT (eN (w _ _ g.jN))
 exact loop xs.length 0 h (by omega) g
section
variable {hb p mb b o cap l:Nat} {C:bM} {H:kP} {n:aK} {r:Row} {m:Ln} {Q:Value->AH->Prop}
def qO (G:Bg) (hb p mb b o cap l:Nat) (C:bM) (H:kP) (n:aK) (r:Row) (m:Ln):List HP:=
 [eC b (o+l*25) r,aF p 0 n.enc,aF hb 0 (lF mb C b o cap),fJ G C.lines mb C (bY (fun i=>(H i).2) l m),hole G 25 230 (some ⟨b,o,none⟩) cap C.lines b o,yX b o C.lines H l]
theorem av (hC:C.Ok) (e:Ob G 1 gA) (i:l<C.lines) (k:n.line=l) (hc:0<=r.served.core/\r.served.core<4) (s:r.quiet=true) (a:Hs G h (qO G hb p mb b o cap l C H n r m++L))
  (c:∀v q,Hs G q (eF v (r.rest l m).2::fP G hb C (bY H l ((r.rest l m).1,m))::L)->Q v q):Dd 286 7 [] Q [(pt hb 0 0),(pt p 0 0),(pt b (o+l*25) 0)] h:=by
 simp only[qO,List.cons_append,List.nil_append] at a
 simp only[Row.rest,aNa s] at c
 have f:=a
 obtain⟨wa,wc,a⟩:=dK (show Hs G h (eC b (o+l*25) r::_) from a)
 refine bW (aB (aA (aA (aC a rfl (aZ (aQ (fun g=>?_) (fun g=>?_)))))))
 .rw[aNa g] at c;refine bW (cm f fun h a=>c _ _ ?_);exact(pP (eD hb C H l r.free m _ mb b o cap i rfl a)).to
 .rw[aN9 g] at c;refine aA (aC a rfl ?_);rw[k];have a:=eD hb C H l r m _ mb b o cap i rfl f;refine Em hC e a i (by simp only[jA];exact hc) fun v h a=>c _ _ ?_;simp only[jA,Cg] at a;exact a.to
theorem Zr (hC:C.Ok) (f:Ob G 1 gA) (t:l<C.lines) (k:n.line=l) (hc:0<=r.served.core/\r.served.core<4) (e:Hs G h (qO G hb p mb b o cap l C H n r m++L))
  (i:∀v s,Hs G s (eF v (r.rest l m).2::fP G hb C (bY H l ((r.rest l m).1,m))::L)->Q v s):Dd 286 4 [] Q [(pt hb 0 0),(pt p 0 0),(pt b (o+l*25) 0)] h:=by
 have g:=e
 simp only[qO,List.cons_append,List.nil_append] at e
 have q:=e
 obtain⟨wa,wc,e⟩:=dK (show Hs G h (eC b (o+l*25) r::_) from e)
 refine bW (aB (aA (aN e (by decide) (l:=[.bool (r.asked 0),.bool (r.asked 1),.bool (r.asked 2),.bool (r.asked 3)]) rfl rfl (aI (c:=[.bool false,.bool false,.bool false,.bool false]) rfl (ur (cZ (fun a=>?_) (fun a=>?_)))))))
 .have a:r.quiet=false:=by unfold Row.quiet;rw[a];rfl
  simp only[Row.rest,a,Bool.false_eq_true,if_false] at i
  refine i _ _ ?_
  exact(pP (eD hb C H l r m _ mb b o cap t rfl (show Hs G h (eC b (o+l*25) r::_) from q))).to
 .have a:r.quiet=true:=by unfold Row.quiet;rw[a];rfl
  exact av hC f t k hc a g i
end
end
end Go.Proofs.YtcjlkjeeifemhaaGreatDoor.H
namespace Go.Proofs.YtcjlkjeeifemhaaGreatDoor
open Go Go.Ab Go.Hm Go.At Go.Mc
section
def Bo:Mc.iU:=⟨0,0,0,0,0,0,false,0,fun _=>false⟩
def yT (r:Mc.iU):List Value:=[I r.core,I r.world,I r.call,I r.cE,I r.to]
def mN (r:Mc.iU):List Value:=[I r.core,I r.world,I r.call,I r.cE,I r.to,I r.then',.bool r.Ep]
def fH (f:Nat->Option Mc.iU) (k:Nat):Option Value:=(f k).map fun r=> .agg ⟨r.enc⟩
theorem Gr {f:Nat->Option Mc.iU} {g:Nat} {x:Option Mc.iU}:I6 (fH f) g (x.map fun r=> .agg ⟨r.enc⟩)=fH (bY f g x):=by
 funext k;unfold I6 fH bY;split<;>rfl
theorem ir {m:Mon}:B0 (fH m.runs)=m.running:=by
 unfold B0 Mon.running;congr 1;funext k;unfold fH;cases m.runs k<;>rfl
theorem x9 {m:Mon} {g:Int}:(if 0<=g then fH m.runs g.toNat else none)=(m.run g).map fun r=>Value.agg ⟨r.enc⟩:=by
 unfold Mon.run fH;split<;>rfl
set_option maxRecDepth 100000
variable {G:Bg} {h:AH} {L L' M:List HP} {Q:Value->AH->Prop} {C:bM} {m:Mon} {p:Nat}
def fD (C:bM) (p:Nat) (m:Mon):HP:=tV fun x:Nat×Nat=>sp [aF p 0 [pt x.1 0 0,I C.aG,fN x.2],gL x.1 m.fY,iD x.2 (fH m.runs)]
theorem kB (a:Hs G h (fD C p m::L)):∃t b,Hs G h (aF p 0 [pt t 0 0,I C.aG,fN b]::gL t m.fY::iD b (fH m.runs)::L):=by
 obtain⟨⟨t,b⟩,a⟩:=a.yP;exact⟨t,b,a.wP⟩
theorem dJ {t b:Nat} (a:Hs G h (aF p 0 [pt t 0 0,I C.aG,fN b]::gL t m.fY::iD b (fH m.runs)::L)):Hs G h (fD C p m::L):=
 Hs.vA (A:=fun x:Nat×Nat=>sp [aF p 0 [pt x.1 0 0,I C.aG,fN x.2],gL x.1 m.fY,iD x.2 (fH m.runs)]) (t,b) a.Gn
theorem O7 {b:Nat} {g:Int} {k:Value->Prop} (c:Hs G h L) [e:Has (iD b) L (fH m.runs) L'] (a:k (.agg ⟨((m.run g).getD Bo).enc⟩)):aY (lkV (.agg ⟨[(I 0),(I 0),(I 0),(I 0),(I 0),(I 0),(.bool false),(I 0),(.bool false),(.bool false),(.bool false),(.bool false)]⟩) h (fN b) (I g) false) k:=by
 refine aKu c ?_;rw[x9];cases hr:m.run g with
 |none=>rw[hr] at a;exact a
 |some r=>rw[hr] at a;exact a
theorem j3 {g:Int}:((m.run g).getD Bo).phase=m.phase g:=by
 unfold Mon.phase;cases m.run g<;>rfl
theorem Jl {g:Int} (a:Hs G h L) [f:Has (fD C p) L m L'] (e:∀c,Hs G c (fD C p m::L')->Q (I (m.phase g)) c):Cl Pr K 239 [pt p 0 0,I g] h Q:=by
 obtain⟨t,b,a⟩:=kB (f.of a);refine cW (cS (bX (aB (aA (am p a rfl (O7 (m:=m) a (gm rfl ?_)))))));show Q _ _;rw[j3];exact e _ (dJ a)
theorem aKa {g:Int} (a:Hs G h L) [s:Has (fD C p) L m L'] (k:∀l i,Hs G i (fD C p m::L')->(m.phase g≠0->l=yT ((m.run g).getD Bo))->l.length=5->l.all dV=true->Q (.tuple ⟨[.agg ⟨l⟩,.bool (decide (m.phase g≠0))]⟩) i):Cl Pr K 195 [pt p 0 0,I g] h Q:=by
 refine cW (bG a fun q h a=>Jl (C:=C) (m:=m) a fun h a=>aZ (aQ (fun f=>?_) (fun f=>?_)));refine aI (c:=(yT Bo)) rfl (ax (b:=q) a fun h a=>an q a (l:=(yT Bo)) rfl rfl ?_);have:=k (yT Bo) h a.to (fun e=>absurd f e) rfl rfl;rw[decide_eq_false (by omega)] at this;exact this;obtain⟨t,b,a⟩:=kB a;refine aB (aA (am p a rfl (O7 (m:=m) a (Ix (m:=mN ((m.run g).getD Bo)) rfl rfl (Ix (m:=yT ((m.run g).getD Bo)) rfl rfl ?_)))));refine ax (b:=q) a fun h a=>an q a (l:=yT ((m.run g).getD Bo)) rfl rfl ?_;have:=k _ h (dJ (t:=t) (b:=b) a.to) (fun _=>rfl) rfl rfl;rw[decide_eq_true f] at this;exact this
theorem Cu (f:Hs G h L) [v:Has (fD C p) L m L'] (u:∀q a c i,Hs G i (H.Nv 3 q a c (m.running.map fun k:Nat=>(k:Int))::fD C p m::L')->Q (.func (.func 338) #[] #[pt q 0 0]) i):Cl Pr K 194 [pt p 0 0] h Q:=by
 obtain⟨t,b,f⟩:=kB (v.of f);refine cW (cS (bX (aB (aA (am p f rfl ?_)))));refine cW (aJy f fun q h f=>?_);have f:Hs G h (aF q 0 [fN b]::mt q (206,true,1)::iD b (fH m.runs)::aF p 0 [pt t 0 0,I C.aG,fN b]::gL t m.fY::L'):=f.to;refine sa (e:=3) rfl f fun a g h f=>?_;rw[ir (m:=m)] at f ⊢;have e:(m.running.map fun k:Nat=>I k)=(m.running.map fun k:Nat=>(k:Int)).map I:=by rw[List.map_map];rfl
 rw[e] at f;refine H.Pn (e:=3) (xs:=m.running.map fun k:Nat=>(k:Int)) (by simp) f fun s h f=>?_;have f:Hs G h (aF p 0 [pt t 0 0,I C.aG,fN b]::gL t m.fY::iD b (fH m.runs)::H.Nv 3 s a g (m.running.map fun k:Nat=>(k:Int))::L'):=f.to;exact u s a g _ (dJ f).jN
end
end Go.Proofs.YtcjlkjeeifemhaaGreatDoor
namespace Go.Proofs.YtcjlkjeeifemhaaGreatDoor
open Go Go.Ab Go.Hm Go.At
section
set_option maxRecDepth 100000
variable {G:Bg} {h:AH} {L L':List HP} {Q:Value->AH->Prop}
theorem vk {C:bM} (hC:C.Ok) {mb l:Nat} {mem:Nat->Ln} (s:l<C.lines) (e:Hs G h (fJ G C.lines mb C mem::L)):
  ∃(b o cap:Nat) (r w:Int) (b2 o2 cp:Nat) (H:HP),Hs G h (aF mb 0 (C.enc++[.slice (some ⟨b,o,none⟩) C.aL.toNat cap])::aF b (o+(l % C.aL.toNat)*3) [I r,I w,.slice (some ⟨b2,o2,none⟩) (gU C.lines C.aL.toNat (l % C.aL.toNat)) cp]::aF b2 (o2+l/C.aL.toNat*2) (Nn (mem l))::H::L)/\
   ∀v g M,Hs G g (aF mb 0 (C.enc++[.slice (some ⟨b,o,none⟩) C.aL.toNat cap])::aF b (o+(l % C.aL.toNat)*3) [I r,I w,.slice (some ⟨b2,o2,none⟩) (gU C.lines C.aL.toNat (l % C.aL.toNat)) cp]::aF b2 (o2+l/C.aL.toNat*2) (Nn v)::H::M)->Hs G g (fJ G C.lines mb C (bY mem l v)::M):=by
 have hb:=bM.bk hC
 obtain⟨b,o,cap,e⟩:=vK e
 have e:=(e.front (dC C.aL.toNat fun i=>fK C.lines C.aL.toNat b (o+i*3) i mem)).mD (l % C.aL.toNat) (Nat.mod_lt _ hb.2.1)
 obtain⟨r,w,a,cp,e⟩:=Aw e
 have k:=Iq hb.2.1 s
 obtain⟨b2,o2,rfl,H,e,f⟩:=Hs.vh (R2 (B:=C.aL.toNat) (i:=l % C.aL.toNat) (mem:=mem)) k (e.front (cU 2 189 a cp (gU C.lines C.aL.toNat (l % C.aL.toNat),(List.range (gU C.lines C.aL.toNat (l % C.aL.toNat))).flatMap (M4 C.aL.toNat (l % C.aL.toNat) mem))))
 rw[ud hb.2.1] at e
 refine⟨b,o,cap,r,w,b2,o2,cp,sp [H,sp (((List.range C.aL.toNat).erase (l % C.aL.toNat)).map fun i=>fK C.lines C.aL.toNat b (o+i*3) i mem),hole G 3 290 (some ⟨b,o,none⟩) cap C.aL.toNat b o],e.to,?_⟩
 intro v g M e
 have e:=(e.front (sp [H,sp (((List.range C.aL.toNat).erase (l % C.aL.toNat)).map fun i=>fK C.lines C.aL.toNat b (o+i*3) i mem),hole G 3 290 (some ⟨b,o,none⟩) cap C.aL.toNat b o])).wP
 have e:=f _ _ _ rfl rfl (e.cF (aF b2 (o2+l/C.aL.toNat*2) (Nn v)) H)
 rw[R7 hb.2.1] at e
 have e:=pG (e.sg (b:=b) (o:=o+l % C.aL.toNat*3) (c:=[I r,I w,.slice (some ⟨b2,o2,none⟩) (gU C.lines C.aL.toNat (l % C.aL.toNat)) cp]) rfl)
 exact sI (b:=b) (o:=o) (cap:=cap) ((e.oZ (n:=C.aL.toNat) (i:=l % C.aL.toNat) (fun i=>fK C.lines C.aL.toNat b (o+i*3) i mem) (fun i=>fK C.lines C.aL.toNat b (o+i*3) i (bY mem l v)) (Nat.mod_lt _ hb.2.1) (fun i t q=>by simp only[fK,y9 t q])).to)
theorem aB7 {C:bM} (hC:C.Ok) {mb w:Nat} {mem:Nat->Ln} (k:Ob G 1 gA) (a:Hs G h (fJ G C.lines mb C mem::L)) (t:w<C.lines*2)
  (s:∀(b2 o2:Nat) (H:HP) c,Hs G c (aF b2 o2 (Nn (mem (w/2)))::H::L)->(∀v c M,Hs G c (aF b2 o2 (Nn v)::H::M)->Hs G c (fJ G C.lines mb C (bY mem (w/2) v)::M))->Q (.tuple ⟨[pt b2 o2 (0+w % 2*1),I 0]⟩) c):Cl Pr K 92 [pt mb 0 0,I w] h Q:=by
 have hb:=bM.bk hC
 have f:w/2<C.lines:=by omega
 obtain⟨b,o,cap,r,q,b2,o2,i,H,a,e⟩:=vk hC f a
 refine cW (cS (bX (bW (aB (aA (an mb a (l:=C.enc) rfl rfl (Ot hC k a fun h a=>?_)))))))
 rw[aae]
 refine aH rfl (aH rfl (aH rfl (aT (aaa (bW ?_)))))
 rw[Int.toNat_natCast]
 refine uP hC k a f fun h a=>aH rfl (aH rfl (aH rfl (aT (aaa (aB (aA (aC (b:=b) (o:=o+(w/2) % C.aL.toNat*3) a rfl ?_)))))))
 have g:=Iq hb.2.1 f
 refine dF g (fS (by omega) ?_)
 refine s _ _ (sp [aF mb 0 (C.enc++[.slice (some ⟨b,o,none⟩) C.aL.toNat cap]),aF b (o+(w/2 % C.aL.toNat)*3) [I r,I q,.slice (some ⟨b2,o2,none⟩) (gU C.lines C.aL.toNat (w/2 % C.aL.toNat)) i],H]) _ a.to fun v c M a=>?_
 have a:=(a.front (sp [aF mb 0 (C.enc++[.slice (some ⟨b,o,none⟩) C.aL.toNat cap]),aF b (o+(w/2 % C.aL.toNat)*3) [I r,I q,.slice (some ⟨b2,o2,none⟩) (gU C.lines C.aL.toNat (w/2 % C.aL.toNat)) i],H])).wP
 exact e v c M a.to
theorem N0 {C:bM} (hC:C.Ok) {mb w:Nat} {v:Int} {mem:Nat->Ln} (s:Ob G 1 gA) (a:Hs G h L) [m:Has (fJ G C.lines mb C) L mem L'] (q:w<C.lines*2)
  (i:∀g,Hs G g (fJ G C.lines mb C (Wy mem w v)::L')->Q (I 0) g):Cl Pr K 46 [pt mb 0 0,I w,I v] h Q:=by
 refine cW (aB7 hC s (m.of a) q fun f k H h a c=>aH rfl (aH rfl (aT (aaa (bW (aB ?_))))))
 have e:w % 2=0\/w % 2=1:=by omega
 rcases e with e|e
 .rw[e];refine ay (b:=f) (o:=k) a fun h a=>?_;have a:=c (v,(mem (w/2)).2) _ _ a;have:=i _ (by unfold Wy;rw[aNa e];exact a);exact this
 .rw[e];refine ay (b:=f) (o:=k) a fun h a=>?_;have a:=c ((mem (w/2)).1,v) _ _ a;have:=i _ (by unfold Wy;rw[aab];exact a);exact this
end
end Go.Proofs.YtcjlkjeeifemhaaGreatDoor
namespace Go.Proofs.YtcjlkjeeifemhaaGreatDoor.A
open Go Go.Ab Go.Hm Go.At Go.Is
section
set_option maxRecDepth 100000
variable {G:Bg} {h:AH} {L L':List HP} {Q:Value->AH->Prop}
theorem Uu {v:Value} {a b:Int} {l:List Int} {e:TypeId} (A:l.length<1000) (q:∀s,Hs G s (qU G 1 e v (l.map fun x=>[I x])::L)->Q (.bool (within a b l)) s):
  ∀(f i:Nat) (h:AH),i+f=l.length->within a b l=within a b (l.drop i)->Hs G h (qU G 1 e v (l.map fun x=>[I x])::L)->Dd 72 1 [] Q [(I a),(I b),v,(I l.length),(I i)] h:=by
 intro f
 induction f with
 |zero=>
  intro i h w g k
  rw[List.drop_of_length_le (by omega)] at g
  refine bW (aM (aaa ?_))
  have:=q _ k
  rw[g] at this
  exact this
 |succ f z=>
  intro i h w g k
  obtain⟨x,y,u⟩:=jP (l:=l) (i:=i) (by omega)
  rw[u] at g
  have t:within a b (x::l.drop (i+1))=(decide (a<=x/\x<=b)&&within a b (l.drop (i+1))):=rfl
  rw[t] at g
  refine bW (aM (aad (bW (uK k (x:=[I x]) (by simp[y]) rfl (aM (aQ (fun c=>?_) (fun c=>gZ (aQ (fun d=>?_) (fun d=>?_)))))))))
  .have:=q _ k;rw[g,decide_eq_false (by omega)] at this;exact this
  .have:=q _ k;rw[g,decide_eq_false (by omega)] at this;exact this
  .rw[decide_eq_true (by omega),Bool.true_and] at g;exact bW (aac (z (i+1) h (by omega) g k))
theorem Gp {v:Value} {a b:Int} {l:List Int} {e:TypeId} (k:l.length<1000) (g:Hs G h (qU G 1 e v (l.map fun x=>[I x])::L)) (i:∀f,Hs G f (qU G 1 e v (l.map fun x=>[I x])::L)->Q (.bool (within a b l)) f):Cl Pr K 72 [I a,I b,v] h Q:=by
 obtain⟨s,t,q⟩:=kZ g;refine cW ?_;have c:=Uu (L:=L) (a:=a) (b:=b) k i l.length 0 h (by omega) rfl g;rw[q] at c ⊢;simp only[List.length_map] at c ⊢;exact bH c
theorem xQ {g:Addr} {a b x:Int} {e:TypeId} (c:Hs G h (cU 1 e (some g) 1 (1,[I x])::L)) (i:∀f,Hs G f L->Q (.bool (decide (a<=x/\x<=b))) f):Cl Pr K 72 [I a,I b,.slice (some g) 1 1] h Q:=by
 have c:=su (l:=[x].map fun x=>[I x]) (by simp) rfl rfl c;refine Gp (l:=[x]) (by simp) c fun f c=>?_;have:=i _ c.tail;rw[show within a b [x]=decide (a<=x/\x<=b) by simp[within]];exact this
end
section
set_option maxRecDepth 100000
variable {G:Bg} {h:AH} {L L':List HP} {Q:Value->AH->Prop}
theorem xm {c w o t:Int} (f:Hs G h L) (e:∀q,Hs G q L->Q (.tuple ⟨[I (mA c w o t).1,.bool (mA c w o t).2.1,I (mA c w o t).2.2]⟩) q):Cl Pr K 121 [I c,I w,I o,I t] h Q:=by
 refine cW (aI (c:=[I w]) rfl (dA f rfl rfl rfl fun a h f=>xQ f fun h f=>bT (dT (aQ (fun u=>?_) (fun u=>?_)))));rotate_left;have:=e _ f;unfold mA at this;rw[aae] at this;exact this;refine aI (c:=[I o]) rfl (dA f rfl rfl rfl fun a h f=>xQ f fun h f=>bT (dT (aQ (fun v=>?_) (fun v=>?_))));rotate_left;have:=e _ f;unfold mA at this;rw[aae] at this;exact this;unfold mA at e;rw[aab] at e;refine bW (aZ (aQ (fun g=>?_) (fun i=>bW (aZ (aQ (fun g=>?_) (fun k=>bW (aZ (aQ (fun g=>?_) (fun s=>bW (aZ (aQ (fun g=>?_) (fun x=>?_))))))))))));rw[aNa g] at e;refine bW (aT (aQ (fun g1=>?_) (fun g1=>?_)));rw[aNa g1] at e;exact e _ f;rw[aN9 g1] at e;refine bW (aT (aQ (fun g2=>?_) (fun g2=>?_)));rw[aNa g2] at e;exact e _ f;rw[aN9 g2] at e;refine bW (aI (c:=[I t]) rfl (dA f rfl rfl rfl fun a h f=>xQ f fun h f=>bT (dT (aQ (fun g3=>?_) (fun g3=>?_)))));rw[aab] at e;exact e _ f;rw[aae] at e;exact e _ f;rw[aN9 i,aNa g] at e;refine bW (aZ (aQ (fun g1=>?_) (fun g1=>?_)));rw[aNa g1] at e;exact e _ f;rw[aN9 g1] at e;refine bW (aT (aQ (fun g2=>aT (aQ (fun g3=>?_) (fun g3=>?_))) (fun g2=>?_)));rw[aae] at e;exact e _ f;rw[aab] at e;exact e _ f;rw[aab] at e;exact e _ f;rw[aN9 i,aN9 k,aNa g] at e;refine bW (aZ (aQ (fun g1=>?_) (fun g1=>aT (aQ (fun g2=>?_) (fun g2=>?_)))));rw[aae] at e;exact e _ f;rw[aae] at e;exact e _ f;rw[aab] at e;refine bW (aI (c:=[I t]) rfl (dA f rfl rfl rfl fun a h f=>xQ f fun h f=>bT (dT (aQ (fun g3=>aZ (aQ (fun g4=>?_) (fun g4=>?_))) (fun g3=>?_)))));rw[aae] at e;exact e _ f;rw[aab] at e;exact e _ f;rw[aae] at e;exact e _ f;rw[aN9 i,aN9 k,aN9 s,aNa g] at e;refine bW (aZ (aQ (fun g1=>?_) (fun g1=>?_)));rw[aNa g1] at e;exact e _ f;rw[aN9 g1] at e;refine bW (aT (aQ (fun g2=>?_) (fun g2=>?_)));rw[aNa g2] at e;exact e _ f;rw[aN9 g2] at e;exact e _ f;rw[aN9 i,aN9 k,aN9 s,aN9 x] at e;exact e _ f
def Ak (p:List Ins):List Value:=p.flatMap Ins.enc
theorem aBf {p:List Ins} {i:Nat} (c:i<p.length):((Ak p).drop (i*4)).take 4=(p.getD i ⟨0,0,0,0⟩).enc:=by
 have a:=(tM (W:=4) (l:=p.map Ins.enc) (i:=i) (x:=(p.getD i ⟨0,0,0,0⟩).enc) (by simp[Ins.enc]) (by simp[List.getD_eq_getElem?_getD,List.getElem?_eq_getElem c])).1;rw[<-a];rfl
theorem aBa {p:List Ins} {i:Nat} (e:i<p.length):(Ak p)[i*4+0]?=some (I (p.getD i ⟨0,0,0,0⟩).op):=by
 have c:=aBf e;have a:(((Ak p).drop (i*4)).take 4)[0]?=some (I (p.getD i ⟨0,0,0,0⟩).op):=by rw[c];rfl
 rw[List.getElem?_take_of_lt (by omega),List.getElem?_drop] at a;exact a
theorem Ip {s:aX} {b q c:Nat} {a:Option Addr} {at':Int} (t:0<=at') (f:Hs G h (aF b q (s.core++[.slice a s.prog.length c])::cU 4 155 a c (s.prog.length,Ak s.prog)::L))
  (k:∀i,Hs G i (aF b q ((s.rA at').core++[.slice a s.prog.length c])::cU 4 155 a c (s.prog.length,Ak s.prog)::L)->Q (.tuple ⟨[]⟩) i):Cl Pr K 76 [pt b q 0,I at'] h Q:=by
 refine cW (aB (aA (aA (ay f fun h f=>aB (aA (aC (b:=b) (o:=q) f rfl (bH (dE (aQ (fun g=>?_) (fun g=>?_))))))))))
 .refine aB (aA (aA (ay (b:=b) (o:=q) f fun h f=>?_)));refine k _ ?_;have e:s.rA at'={s with at':=at',over:=true}:=by unfold aX.rA E7;rw[aNa g]
  rw[e]
  exact f
 .obtain⟨n,rfl⟩:∃n:Nat,at'=n:=⟨at'.toNat,by omega⟩;refine aB (aA (aC (b:=b) (o:=q) f rfl (uy (W:=4) (e:=155) (cs:=Ak s.prog) f (by omega) (aBa (by omega)) (aZ (aB (aA (aA (ay (b:=b) (o:=q) f fun h f=>?_))))))));refine k _ ?_;have e:s.rA n={s with at':=n,over:=decide ((s.prog.getD n ⟨0,0,0,0⟩).op=11)}:=by unfold aX.rA E7;rw[aN9 g];rfl
  rw[e]
  exact f
end
end Go.Proofs.YtcjlkjeeifemhaaGreatDoor.A
namespace Go.Proofs.YtcjlkjeeifemhaaGreatDoor
open Go Go.Ab Go.Hm Go.At Go.Mc
section
theorem qP {m:Mon} {g:Nat}:g∈m.running↔g<16/\(m.runs g).isSome:=by unfold Mon.running;simp[List.mem_filter]
set_option maxRecDepth 100000
variable {G:Bg} {h:AH} {L L' M:List HP} {Q:Value->AH->Prop} {C:bM} {m:Mon} {p:Nat}
theorem Az {t:Nat} {g:Int} (e:Hs G h L) [f:Has (gL t) L m.fY L'] (c:∀a,Hs G a (gL t m.fY::L')->Q (if m.has g then .tuple ⟨[.agg ⟨(m.Bp g).enc⟩,I 0]⟩ else .tuple ⟨[.agg ⟨kG.enc⟩,I 10]⟩) a):Cl Pr K 81 [pt t 0 0,I g] h Q:=
 n0 e c
abbrev yx (C:bM) (m:Mon) (p p2 f g p5:Nat) (a:Mc.Ask) (e:Nat->Value) (d l:Nat) (st:LoopState×Option Code) (b:Bool) (c:Int) (pr:Prop):HP:=
 sp [uH pr,kE Pr 199 (kI 1018) 113 e d l st,sp [aF p2 0 [pt p 0 0],aF f 0 a.enc,aF g 0 [.bool b],aF p5 0 [I c]],fD C p m]
set_option maxHeartbeats 600000 in
theorem Zx {a:Mc.Ask} (hC:C.Ok) (hm:hJ C m) (s:Hs G h L) [mm:Has (fD C p) L m L'] (B:∀R,Hs G R (fD C p (m.call C.aG a).1::L')->Q (.tuple ⟨[.bool (m.call C.aG a).2.1,I (m.call C.aG a).2.2]⟩) R):Cl Pr K 199 [pt p 0 0,.agg ⟨a.enc⟩] h Q:=by
 have hc:=hC.1;have μ:=hC.2.1;have κ:=hm.len;have s:=mm.of s;unfold Mon.call at B;refine cW (dB s fun z h s=>dB s fun u h s=>bG s fun w h s=>bG s fun y h s=>am z s rfl (cS (bX ?_)));have bad:∀{h:AH} {M:List HP} (e:Int),[Sub M (fD C p m::L')]->Hs G h (aF w 0 [.bool false]::aF y 0 [I 0]::M)->(∀R,Hs G R (fD C p m::L')->Q (.tuple ⟨[.bool false,I e]⟩) R)->
   aY (tZ h 1 (pt w 0 0) (.bool false)) fun S=>aY (tZ S 1 (pt y 0 0) (I e)) fun h6=>aY (bS [] h6) fun h7=>aY (oM h7 (pt w 0 0)) fun v8=>aY (oM h7 (pt y 0 0)) fun v9=>Q (.tuple ⟨[v8,v9]⟩) h7:=by
  intro h M e _ s hq
  exact ax (b:=w) s fun h s=>ax (b:=y) s fun h s=>iF (am w s rfl (am y s rfl (hq _ s.to)))
 obtain⟨t,b,s⟩:=kB (s.front (fD C p m));have F:∀{h:AH} {M:List HP},Hs G h (aF p 0 [pt t 0 0,I C.aG,fN b]::gL t m.fY::iD b (fH m.runs)::M)->Hs G h (fD C p m::M):=fun s=>dJ s;refine bW (aU s fun r1 h s=>aA (am u s rfl (aM (aQ (fun W=>?_) (fun W=>?_)))));rw[aae] at B;have s:=F (s.cK (aF p 0 [pt t 0 0,I C.aG,fN b]) (gL t m.fY) (iD b (fH m.runs)));exact bad (M:=fD C p m::L') 1 s.to B;refine aA (am u s rfl (am z s rfl (aB (aA (am p s rfl (dE (aQ (fun Y=>?_) (fun Y=>?_))))))));rw[aae] at B;have s:=F (s.cK (aF p 0 [pt t 0 0,I C.aG,fN b]) (gL t m.fY) (iD b (fH m.runs)));exact bad (M:=fD C p m::L') 1 s.to B;rw[aab] at B;refine bW (aU s fun r2 h s=>am z s rfl (aB (aA (am p s rfl (aA (am u s rfl (Az (m:=m) s fun h s=>?_)))))));by_cases O:m.has a.cE;rotate_left;rw[aN9 O];rw[aNa O] at B;refine aH rfl (aH rfl (kM (r:=r2) (i:=10) (n:=13) (D:=[]) s rfl rfl fun E h s=>ax (b:=E) s fun h s=>bP (aH rfl eG) (aT (aad ?_))));have s:=F (s.cK (aF p 0 [pt t 0 0,I C.aG,fN b]) (gL t m.fY) (iD b (fH m.runs)));exact bad (M:=fD C p m::L') 10 s.to B;rw[aNa O];rw[aN9 (by simpa using O)] at B;have η:=hm.Bp O;have α:0<=a.cE/\a.cE<C.bU:=by unfold Mon.has at O;omega
 refine aH rfl (aH rfl (kM (r:=r2) (i:=10) (n:=13) (D:=[]) s rfl rfl fun E h s=>ax (b:=E) s fun h s=>bP (aH rfl eG) (aT (aaa ?_))));have s:=F (s.cK (aF p 0 [pt t 0 0,I C.aG,fN b]) (gL t m.fY) (iD b (fH m.runs)));refine bW (am z s rfl (aA (am u s rfl (Jl (C:=C) (m:=m) s fun h s=>aT (aQ (fun h3=>?_) (fun h3=>?_))))));rw[aNa h3] at B;exact bad (M:=fD C p m::L') 17 s.to B;rw[aN9 h3] at B;refine bW (am z s rfl (Cu (C:=C) (m:=m) s fun q qa qc h s=>jM s fun d h s=>?_));intro e he;refine lY s fun l h s=>rL rfl ?_;have s:Hs G h (H.Nv 3 q qa qc (m.running.map fun k:Nat=>(k:Int))::yx C m p z u w y a e d l (.ready,none) false 0 (∀g∈([]:List Int),m.kS a.core g.toNat=false)::sp [mk d (),aF E 0 (m.Bp a.cE).enc]::L'):=by
  have s:=(s.cF (mk d ()) (aF E 0 (m.Bp a.cE).enc)).A9;have s:=(s.mB (aF z 0 [pt p 0 0]) (aF u 0 a.enc) (aF w 0 [.bool false]) (aF y 0 [I 0])).M3;have s:=s.cK (kE Pr 199 (kI 1018) 113 e d l (.ready,none)) (sp [aF z 0 [pt p 0 0],aF u 0 a.enc,aF w 0 [.bool false],aF y 0 [I 0]]) (fD C p m);have s:=Hs.M3 (Hs.T2 (p:=∀g∈([]:List Int),m.kS a.core g.toNat=false) (by simp) s);exact s.to
 refine(H.Ez (e:=3) (p:=q) (a:=qa) (c:=qc) (xs:=m.running.map fun k:Nat=>(k:Int)) (by have:=List.length_filter_le (fun g=>(m.runs g).isSome) (List.range 16);simp[Mon.running] at this ⊢;omega)).fold
  (X:=fun done=>yx C m p z u w y a e d l (.ready,none) false 0 (∀g∈done,m.kS a.core g.toNat=false)) (Z:=fun _ x=>yx C m p z u w y a e d l (.done,some .ret) false 13 (x∈(m.running.map fun k:Nat=>(k:Int))/\m.kS a.core x.toNat=true)) s ?_ ?_ ?_
 .intro done x h M hp s;obtain⟨P,s⟩:=eV s;have s:=s.wP;obtain⟨k,T,rfl⟩:∃k∈m.running,(k:Int)=x:=by
   obtain⟨ys,ι⟩:=hp;have:x∈m.running.map fun k:Nat=>(k:Int):=by rw[<-ι];simp
   obtain⟨k,W,Y⟩:=List.mem_map.1 this;exact⟨k,W,Y⟩
  obtain⟨r,hr⟩:=Option.isSome_iff_exists.1 (qP.1 T).2;have θ:m.run (k:Int)=some r:=by unfold Mon.run;rw[aae];exact hr
  have s:=(s.front (sp [aF z 0 [pt p 0 0],aF u 0 a.enc,aF w 0 [.bool false],aF y 0 [I 0]])).un4;refine rW (rK s) he (gS s fun h s=>aU s fun rr h s=>?_);obtain⟨t,b,s⟩:=kB (s.front (fD C p m));refine am z s rfl (aB (aA (am p s rfl (O7 (m:=m) s ?_))));rw[θ];refine Ix (m:=mN r) rfl rfl (Ix (m:=yT r) rfl rfl (gm rfl (aA (am u s rfl (aZ (aQ (fun V=>?_) (fun V=>?_)))))));refine ax (b:=w) s fun h s=>ax (b:=y) s fun h s=>gV s fun h s=> .inr ⟨rfl,?_⟩;have s:=dJ (s.cK (aF p 0 [pt t 0 0,I C.aG,fN b]) (gL t m.fY) (iD b (fH m.runs)));have s:=(s.mB (aF z 0 [pt p 0 0]) (aF u 0 a.enc) (aF w 0 [.bool false]) (aF y 0 [I 13])).M3;have s:=s.cK (kE Pr 199 (kI 1018) 113 e d l (.done,some .ret)) (sp [aF z 0 [pt p 0 0],aF u 0 a.enc,aF w 0 [.bool false],aF y 0 [I 13]]) (fD C p m);refine(Hs.M3 (Hs.T2 (p:=((k:Int)∈(m.running.map fun k:Nat=>(k:Int))/\m.kS a.core ((k:Int)).toNat=true)) ⟨List.mem_map.2 ⟨k,T,rfl⟩,?_⟩ s)).to;unfold Mon.kS;rw[Int.toNat_natCast,hr];exact decide_eq_true V
  .refine gV s fun h s=> .inl ⟨rfl,?_⟩;have s:=dJ (s.cK (aF p 0 [pt t 0 0,I C.aG,fN b]) (gL t m.fY) (iD b (fH m.runs)));have s:=(s.mB (aF z 0 [pt p 0 0]) (aF u 0 a.enc) (aF w 0 [.bool false]) (aF y 0 [I 0])).M3;have s:=s.cK (kE Pr 199 (kI 1018) 113 e d l (.ready,none)) (sp [aF z 0 [pt p 0 0],aF u 0 a.enc,aF w 0 [.bool false],aF y 0 [I 0]]) (fD C p m);refine(Hs.M3 (Hs.T2 (p:=∀g∈done++[((k:Nat):Int)],m.kS a.core g.toNat=false) ?_ s)).to;intro g N;rcases List.mem_append.1 N with N|N;exact P g N;rw[List.mem_singleton.1 N,Int.toNat_natCast];unfold Mon.kS;rw[hr];exact decide_eq_false V
 .intro v h s;obtain⟨P,s⟩:=eV (s.front (yx C m p z u w y a e d l (.ready,none) false 0 (∀g∈m.running.map (fun k:Nat=>(k:Int)),m.kS a.core g.toNat=false)));have s:=s.wP;have ζ:m.calls a.core=false:=by
   unfold Mon.calls;rw[List.any_eq_false];intro g N;have:=P g (List.mem_map.2 ⟨g,N,rfl⟩);rw[Int.toNat_natCast] at this;rw[this];simp
  rw[aN9 (by rw[ζ];simp)] at B;have s:=(s.front (sp [aF z 0 [pt p 0 0],aF u 0 a.enc,aF w 0 [.bool false],aF y 0 [I 0]])).un4;have s:=(s.front (sp [mk d (),aF E 0 (m.Bp a.cE).enc])).Bq;refine mC s fun h s=>lT ?_;refine aA (am u s rfl (aA (am u s rfl (aA (am E s rfl (aA (am u s rfl (A.xm s fun h s=>?_))))))));dsimp only at B;have γ:0<=(mA a.call a.world (m.Bp a.cE).owner a.to).1/\(mA a.call a.world (m.Bp a.cE).owner a.to).1<=4:=by
   unfold mA;repeat' split
   all_goals first|omega|(simp only[];omega)
  generalize mA a.call a.world (m.Bp a.cE).owner a.to=jj at B γ ⊢;refine aH rfl (aH rfl (aH rfl (aT (aQ (fun S=>?_) (fun S=>?_)))));rw[aNa S] at B;refine ax (b:=w) s fun h s=>ax (b:=y) s fun h s=>kN s fun h s=>iF (am w s rfl (am y s rfl (B _ s.to)));rw[aN9 S] at B;obtain⟨t,b,s⟩:=kB (s.front (fD C p m));refine bW (aU s fun rr h s=>am z s rfl (aB (aA (am p s rfl (aA (am u s rfl (aA (am E s rfl (aI (c:=(⟨(m.Bp a.cE).owner,true⟩:kR).enc) rfl ?_)))))))));refine Gm (x:=⟨(m.Bp a.cE).owner,true⟩) s fun h s=>?_;have J:(0<=a.cE/\a.cE<m.fY.length)/\(0<=(m.Bp a.cE).owner/\(m.Bp a.cE).owner<=4):=⟨O,η⟩;rw[aNa J] at s;rw[aNa J];refine aT (aaa (bW (an u s (l:=a.enc) rfl rfl (aI (c:=[I a.core,I a.world,I a.call,I a.cE,I a.to,I jj.1,.bool jj.2.1]) rfl (aI (c:=(⟨a.core,a.world,a.call,a.cE,a.to,jj.1,jj.2.1,1,fun _=>false⟩:Mc.iU).enc) rfl (bG s fun pr h s=>ax (b:=pr) s fun h s=>am z s rfl (aB (aA (am p s rfl ?_)))))))));have loop:∀(k i:Nat) (h:AH),i+k=C.aG.toNat->Hs G h (aF pr 0 (⟨a.core,a.world,a.call,a.cE,a.to,jj.1,jj.2.1,1,fun j=>decide (j<i)⟩:Mc.iU).enc::aF p 0 [pt t 0 0,I C.aG,fN b]::gL t (m.fY.set a.cE.toNat ⟨(m.Bp a.cE).owner,true⟩)::iD b (fH m.runs)::aF z 0 [pt p 0 0]::aF u 0 a.enc::aF w 0 [.bool false]::aF y 0 [I 0]::mk d ()::L')->
    Dd 199 8 [d] Q [(pt z 0 0),(pt u 0 0),(pt w 0 0),(pt y 0 0),(pt pr 0 0),(I C.aG),(I i)] h:=by
   intro k
   induction k with
   |zero=>
    intro i h hi s
    refine bW (aM (aaa (bW (aU s fun rr h s=>am z s rfl (aB (aA (am p s rfl (aA (am u s rfl (an pr s (l:=(⟨a.core,a.world,a.call,a.cE,a.to,jj.1,jj.2.1,1,fun j=>decide (j<i)⟩:Mc.iU).enc) rfl rfl ?_))))))))))
    obtain⟨g,N⟩:=Int.eq_ofNat_of_zero_le α.1
    rw[show(a.cE)=((g:Nat):Int) from N]
    refine Sl s (by omega) fun h s=>?_
    rw[<-N] at s
    refine ax (b:=w) s fun h s=>ax (b:=y) s fun h s=>kN s fun h s=>iF (am w s rfl (am y s rfl (B _ ?_)))
    have hw:(⟨a.core,a.world,a.call,a.cE,a.to,jj.1,jj.2.1,1,fun j=>decide (j<i)⟩:Mc.iU)=a.run C.aG jj:=by
     unfold Ask.run;congr 1;funext j;exact decide_eq_decide.2 (by omega)
    have e1:=Gr (f:=m.runs) (g:=g) (x:=some (a.run C.aG jj))
    rw[Option.map_some] at e1
    have s:=s.cK (aF p 0 [pt t 0 0,I C.aG,fN b]) (gL t (m.fY.set a.cE.toNat ⟨(m.Bp a.cE).owner,true⟩)) (iD b (I6 (fH m.runs) g (some (.agg ⟨(⟨a.core,a.world,a.call,a.cE,a.to,jj.1,jj.2.1,1,fun j=>decide (j<i)⟩:Mc.iU).enc⟩))))
    rw[hw,e1] at s
    have β:g=a.cE.toNat:=by omega
    rw[β] at s
    exact(dJ (m:=(m.oh a.cE.toNat ⟨(m.Bp a.cE).owner,true⟩).dX a.cE.toNat (some (a.run C.aG jj))) s).to
   |succ k ih=>
    intro i h hi s
    refine bW (aM (aad (bW (aA (fS (by omega) ?_)))))
    have hl:(⟨a.core,a.world,a.call,a.cE,a.to,jj.1,jj.2.1,1,fun j=>decide (j<i)⟩:Mc.iU).enc.length=12:=rfl
    refine bC (b:=pr) (o:=0) s rfl (by rw[hl];exact Nat.ble_eq_true_of_le (by simp;omega)) rfl rfl fun h s=>aac (ih (i+1) h (by omega) ?_)
    have e:dH (⟨a.core,a.world,a.call,a.cE,a.to,jj.1,jj.2.1,1,fun j=>decide (j<i)⟩:Mc.iU).enc (0+8+i*1) [.bool true]=(⟨a.core,a.world,a.call,a.cE,a.to,jj.1,jj.2.1,1,fun j=>decide (j<i+1)⟩:Mc.iU).enc:=by
     have:i=0\/i=1\/i=2\/i=3:=by omega
     rcases this with rfl|rfl|rfl|rfl<;>rfl
    rw[e] at s
    exact s.to
  refine loop C.aG.toNat 0 h (by omega) ?_;have e:(⟨a.core,a.world,a.call,a.cE,a.to,jj.1,jj.2.1,1,fun _=>false⟩:Mc.iU).enc=(⟨a.core,a.world,a.call,a.cE,a.to,jj.1,jj.2.1,1,fun j=>decide (j<0)⟩:Mc.iU).enc:=rfl;rw[e] at s;exact s.to
 .intro done x v h hp s;obtain⟨P,s⟩:=eV (s.front (yx C m p z u w y a e d l (.done,some .ret) false 13 (x∈(m.running.map fun k:Nat=>(k:Int))/\m.kS a.core x.toNat=true)));have s:=s.wP;have U:m.calls a.core=true:=by
   unfold Mon.calls;rw[List.any_eq_true];obtain⟨k,δ,ε⟩:=List.mem_map.1 P.1;refine⟨k,δ,?_⟩;have:=P.2;rw[<-ε,Int.toNat_natCast] at this;exact this
  rw[aNa U] at B;have s:=(s.front (sp [aF z 0 [pt p 0 0],aF u 0 a.enc,aF w 0 [.bool false],aF y 0 [I 13]])).un4;have s:=(s.front (sp [mk d (),aF E 0 (m.Bp a.cE).enc])).Bq;refine Cx s fun h s=>y7 (kN s fun h s=>iF (am w s rfl (am y s rfl (B _ s.to))))
end
end Go.Proofs.YtcjlkjeeifemhaaGreatDoor
namespace Go.Proofs.YtcjlkjeeifemhaaGreatDoor.A
open Go Go.Ab Go.Hm Go.At Go.Is
section
set_option maxRecDepth 100000
variable {G:Bg} {h:AH} {L L':List HP} {Q:Value->AH->Prop}
def yq (mem:Nat->Ln) (done:List Nat):Nat->Ln:=done.foldl (fun m l=>bY m l (0,0)) mem
abbrev scX (G:Bg) (C:bM) (mb p2:Nat) (mem:Nat->Ln) (e:Nat->Value) (d l:Nat) (done:List Nat):HP:=sp [kE Pr 122 (kI 122) 34 e d l (.ready,none),aF p2 0 [pt mb 0 0],fJ G C.lines mb C (yq mem done)]
theorem xr {C:bM} (hC:C.Ok) {mb g:Nat} {mem:Nat->Ln} (t:Ob G 1 gA) (a:Hs G h L) [m:Has (fJ G C.lines mb C) L mem L'] (z:(g:Int)<C.bU)
  (B:∀v s,Hs G s (fJ G C.lines mb C (Ep mem g)::L')->Q v s):Cl Pr K 122 [pt mb 0 0,I g] h Q:=by
 have hb:C.bU<=16:=hC.2.1.2
 have D:=bM.gI hC
 have a:=m.of a
 refine cW (dB a fun f h a=>bG a fun i h a=>am f a rfl (cS (bX (bW (aM (aaa ?_))))))
 obtain⟨b,o,cap,a⟩:=vK (a.front (fJ G C.lines mb C mem))
 refine am f a rfl (aB (aA (aA (am mb a rfl (dE (aaa (bW ?_)))))))
 refine am f a rfl (aB (aA (an mb a (l:=C.enc) rfl rfl (Cy a fun p q h a=>jM a fun d h a=>?_))))
 have a:=Mp C.lines mb C mem b o cap a
 intro e A
 refine lY a fun l h a=>rL rfl ?_
 have a:Hs G h (sp [aF p 0 C.enc,aF q 0 [I g]]::scX G C mb f mem e d l []::sp [aF i 0 [I 0],mk d ()]::L'):=by
  have a:=a.cK (kE Pr 122 (kI 122) 34 e d l (.ready,none)) (aF f 0 [pt mb 0 0]) (fJ G C.lines mb C mem);have a:Hs G h (scX G C mb f mem e d l []::_):=a.Gn;have a:=(a.cF (aF i 0 [I 0]) (mk d ())).A9;exact a.cK (sp [aF p 0 C.enc,aF q 0 [I g]]) (scX G C mb f mem e d l []) (sp [aF i 0 [I 0],mk d ()])
 refine(Fo (p:=p) (q:=q) hC z t).fold (X:=scX G C mb f mem e d l) (Z:=fun _ _=>uH False) a ?_ ?_ ?_
 .intro done y h M u a;have E:y<C.lines:=by
   obtain⟨F,k⟩:=u;have:y∈[g*2,g*2+1]:=by rw[<-k];simp
   simp at this;omega
  have a:=a.wP
  refine rW (rK a) A (gS a fun h a=>am f a rfl (aI (c:=Nn (0,0)) rfl (J9 hC t a E fun h a=>aT (aaa ?_))))
  refine gV a fun h a=> .inl ⟨rfl,Hs.Gn ?_⟩
  have w:yq mem (done++[y])=bY (yq mem done) y (0,0):=by unfold yq;rw[List.foldl_append];rfl
  rw[w]
  exact a.to
 .intro v h a;have a:=(a.front (scX G C mb f mem e d l [g*2,g*2+1])).wP;refine mC a fun h a=>lT ?_;have a:=(a.front (sp [aF i 0 [I 0],mk d ()])).Bq;refine ax (b:=i) (o:=0) a fun h a=>kN a fun h a=>iF (am i a rfl (B _ _ ?_));have x:yq mem [g*2,g*2+1]=Ep mem g:=rfl;rw[x] at a;exact a.to
 .intro done y v h u a;exact(a.front (uH False)).jr.1.elim
abbrev hdA (pm:Nat) (C:bM) (v:Value) (a:Option Addr) (n c mb:Nat):HP:=aF pm 0 (C.enc++[v,.slice a n c,pt mb 0 0])
end
section
set_option maxRecDepth 100000
variable {G:Bg} {h:AH} {L L':List HP} {Q:Value->AH->Prop}
end
section
set_option maxRecDepth 100000
variable {G:Bg} {h:AH} {L L':List HP} {Q:Value->AH->Prop}
def yH (b o:Nat) (s:aX):HP:=tV fun x:Option Addr×Nat=>sp [aF b o (s.core++[.slice x.1 s.prog.length x.2]),cU 4 155 x.1 x.2 (s.prog.length,Ak s.prog)]
theorem Ys {b o c:Nat} {a:Option Addr} {s:aX} (e:Hs G h (aF b o (s.core++[.slice a s.prog.length c])::cU 4 155 a c (s.prog.length,Ak s.prog)::L)):Hs G h (yH b o s::L):=
 Hs.vA (A:=fun x:Option Addr×Nat=>sp [aF b o (s.core++[.slice x.1 s.prog.length x.2]),cU 4 155 x.1 x.2 (s.prog.length,Ak s.prog)]) (a,c) (Hs.pack (A:=[_,_]) e)
structure AtA where
 b:Nat
 o:Nat
 cap:Nat
 a:Option Addr
 c:Nat
 mb:Nat
def atL (G:Bg) (pm:Nat) (m:AM) (x:AtA):List HP:=[hdA pm m.cfg (.slice (some ⟨x.b,x.o,none⟩) m.cfg.aG.toNat x.cap) x.a m.zI.length x.c x.mb,cU 1 3 x.a x.c (m.zI.length,m.zI.map I),fJ G m.cfg.lines x.mb m.cfg m.mem,
  hole G 8 177 (some ⟨x.b,x.o,none⟩) x.cap m.cfg.aG.toNat x.b x.o,dC m.cfg.aG.toNat fun i=>yH x.b (x.o+i*8) (m.bJ i)]
def aK8 (G:Bg) (pm:Nat) (m:AM):HP:=tV fun x:AtA=>sp (atL G pm m x)
theorem nu {pm:Nat} {m:AM} {b o cap c mb:Nat} {a:Option Addr} (e:Hs G h (hdA pm m.cfg (.slice (some ⟨b,o,none⟩) m.cfg.aG.toNat cap) a m.zI.length c mb::cU 1 3 a c (m.zI.length,m.zI.map I)::fJ G m.cfg.lines mb m.cfg m.mem::
  hole G 8 177 (some ⟨b,o,none⟩) cap m.cfg.aG.toNat b o::dC m.cfg.aG.toNat (fun i=>yH b (o+i*8) (m.bJ i))::L)):Hs G h (aK8 G pm m::L):=
 Hs.vA (A:=fun x:AtA=>sp (atL G pm m x)) ⟨b,o,cap,a,c,mb⟩ (Hs.pack (A:=atL G pm m ⟨b,o,cap,a,c,mb⟩) e)
end
section
set_option maxRecDepth 100000
variable {G:Bg} {h:AH} {L L':List HP} {Q:Value->AH->Prop}
end
section
set_option maxRecDepth 100000
variable {G:Bg} {h:AH} {L L':List HP} {Q:Value->AH->Prop}
theorem aFi {n c:Nat} {a:Option Addr} {cs:List Value} (q:n<=100) (k:Hs G h L) [m:Has (cU 2 189 a c) L (n,cs) L'] (i:∀e f g,Hs G g (cU 2 189 e f (n,cs)::cU 2 189 a c (n,cs)::L')->Q (.slice e n f) g):Cl Pr K 305 [.slice a n c] h Q:=
 cW (Ax (bytes:=16) k (by omega) i)
theorem aG1 {n c:Nat} {a:Option Addr} {cs:List Value} (q:n<=100) (k:Hs G h L) [m:Has (cU 3 290 a c) L (n,cs) L'] (i:∀e f g,Hs G g (cU 3 290 e f (n,cs)::cU 3 290 a c (n,cs)::L')->Q (.slice e n f) g):Cl Pr K 304 [.slice a n c] h Q:=
 cW (Ax (bytes:=40) k (by omega) i)
theorem aA4 {v:Value} {l:List (List Value)} {e:TypeId} (k:l.length<=100) (hc:l.flatten.all dV=true) (i:Hs G h (qU G 1 e v l::L)) (g:∀a c f,Hs G f (cU 1 3 a c (l.length,l.flatten)::qU G 1 e v l::L)->Q (.slice a l.length c) f):Cl Pr K 74 [v] h Q:=
 cW (Jc (bytes:=8) i (by decide) rfl hc (by omega) g)
theorem aD5 {v:Value} {l:List (List Value)} {e:TypeId} (k:l.length<=100) (hc:l.flatten.all dV=true) (i:Hs G h (qU G 4 e v l::L)) (g:∀a c f,Hs G f (cU 4 155 a c (l.length,l.flatten)::qU G 4 e v l::L)->Q (.slice a l.length c) f):Cl Pr K 75 [v] h Q:=
 cW (Jc (bytes:=32) i (by decide) rfl hc (by omega) g)
def F7 (n B:Nat) (i:Nat) (x:BkA):List Value:=[I x.r,I x.w,.slice x.a (gU n B i) x.cap]
def ku (n B:Nat) (mem:Nat->Ln) (i:Nat) (x:BkA):HP:=cU 2 189 x.a x.cap (gU n B i,(List.range (gU n B i)).flatMap (M4 B i mem))
theorem Yt {n B p b o cap:Nat} {C:bM} {mem:Nat->Ln} {f:Nat->BkA} (hB:B<=4) (J:n<=32) (D:∀u,Hs G u (aF p 0 (C.enc++[.slice (some ⟨b,o,none⟩) B cap])::dC B (fun i=>fK n B b (o+i*3) i mem)::dC B (fun i=>ku n B mem i (f i))::L)->Q (pt p 0 0) u):
  ∀(r i:Nat) (h:AH) (_M:List HP),i+r=B->Hs G h (aF p 0 (C.enc++[.slice (some ⟨b,o,none⟩) B cap])::dC B (fun j=>if j<i then fK n B b (o+j*3) j mem else aF b (o+j*3) (F7 n B j (f j)))::dC B (fun i=>ku n B mem i (f i))::L)->
  Dd 230 2 [] Q [(pt p 0 0),(I B),(I i)] h:=by
 intro r
 induction r with
 |zero=>
  intro i h M z a
  obtain rfl:i=B:=by omega
  refine bW (aM (aaa (D _ ?_)))
  have a:=a.front (dC i fun j=>if j<i then fK n i b (o+j*3) j mem else aF b (o+j*3) (F7 n i j (f j)))
  have a:=sF (g:=fun j=>fK n i b (o+j*3) j mem) (fun j A=>by rw[aNa A]) a
  exact a.cK (aF p 0 (C.enc++[.slice (some ⟨b,o,none⟩) i cap])) (dC i fun j=>fK n i b (o+j*3) j mem) (dC i fun j=>ku n i mem j (f j))
 |succ r F=>
  intro i h M z a
  have k:i<B:=by omega
  have y:=ft (n:=n) (B:=B) (i:=i) (by omega)
  refine bW (aM (aad (bW (aU a fun K h a=>?_))))
  have a:=(a.front (dC B fun j=>if j<i then fK n B b (o+j*3) j mem else aF b (o+j*3) (F7 n B j (f j)))).mD i k
  simp only[Nat.lt_irrefl,if_false] at a
  have a:=(a.front (dC B fun j=>ku n B mem j (f j))).mD i k
  refine aB (aA (am p a rfl (aB (aA (am p a rfl (dF k (aA (aC (b:=b) (o:=o+i*3) a rfl ?_))))))))
  have a:Hs G h (cU 2 189 (f i).a (f i).cap (gU n B i,(List.range (gU n B i)).flatMap (M4 B i mem))::_):=a
  refine aFi (by omega) a fun s t h a=>?_
  refine dF k (aA (ay (b:=b) (o:=o+i*3) a fun x q=>?_))
  refine bP cG (bP (aB cG) (bP (aA cG) (bP (am p a rfl T4) (bP eG (aac ?_)))))
  refine F (i+1) x [] (by omega) ?_
  have q:=q.sg (b:=b) (o:=o+i*3) (c:=[I (f i).r,I (f i).w,.slice s (gU n B i) t]) rfl
  have e:=pG (b:=b) (o:=o+i*3) (q.cF (aF b (o+i*3) [I (f i).r,I (f i).w,.slice s (gU n B i) t]) (cU 2 189 s t (gU n B i,(List.range (gU n B i)).flatMap (M4 B i mem))))
  have v:fK n B b (o+i*3) i mem=(fun j=>if j<i+1 then fK n B b (o+j*3) j mem else aF b (o+j*3) (F7 n B j (f j))) i:=by simp only[Nat.lt_succ_self,if_true]
  rw[v] at e
  have e:=e.oZ (n:=B) (i:=i) (fun j=>if j<i then fK n B b (o+j*3) j mem else aF b (o+j*3) (F7 n B j (f j))) (fun j=>if j<i+1 then fK n B b (o+j*3) j mem else aF b (o+j*3) (F7 n B j (f j))) k (fun j _ E=>by
   have:(j<i+1)=(j<i):=propext ⟨fun h=>by omega,fun h=>by omega⟩;simp only[this])
  have w:(cU 2 189 (f i).a (f i).cap (gU n B i,(List.range (gU n B i)).flatMap (M4 B i mem)))=(fun j=>ku n B mem j (f j)) i:=rfl
  rw[w] at e
  have e:=e.oZ (n:=B) (i:=i) (fun j=>ku n B mem j (f j)) (fun j=>ku n B mem j (f j)) k (fun _ _ _=>rfl)
  exact e.to
theorem X4 {C:bM} (hC:C.Ok) {mb:Nat} {mem:Nat->Ln} (a:Hs G h L) [m:Has (fJ G C.lines mb C) L mem L'] (v:∀s u,Hs G u (fJ G C.lines s C mem::fJ G C.lines mb C mem::L')->Q (pt s 0 0) u):Cl Pr K 230 [pt mb 0 0] h Q:=by
 have hb:=bM.bk hC;have t:=bM.gI hC;obtain⟨b,o,cap,a⟩:=vK (m.of a);refine cW (cS (bX (bW (aU a fun y h a=>?_))));have q:Hs G h (dC C.aL.toNat (fun i=>tV fun x=>sp [aF b (o+i*3) (F7 C.lines C.aL.toNat i x),ku C.lines C.aL.toNat mem i x])::hole G 3 290 (some ⟨b,o,none⟩) cap C.aL.toNat b o::_):=a.cF (dC C.aL.toNat fun i=>fK C.lines C.aL.toNat b (o+i*3) i mem) (hole G 3 290 (some ⟨b,o,none⟩) cap C.aL.toNat b o);obtain⟨f,a⟩:=Hs.ib (W:=3) (c:=F7 C.lines C.aL.toNat) (d:=ku C.lines C.aL.toNat mem) (⟨0,0,none,0⟩:BkA) (fun _ _=>rfl) (fun _ _=>rfl) (by decide) hb.2.1 q;clear q;refine aB (aA (an mb a (l:=C.enc) rfl rfl (aB (aA (am mb a rfl ?_)))));refine aG1 (by omega) a fun w k h a=>?_;obtain⟨e,g,rfl,a⟩:=Hs.Yb (W:=3) (c:=fun i=>F7 C.lines C.aL.toNat i (f i)) (fun _=>rfl) hb.2.1 a;refine aI (c:=C.enc++[.slice (some ⟨e,g,none⟩) C.aL.toNat k]) rfl (zK a rfl rfl fun p h a=>?_);refine bP cG (bP (aB cG) (bP (aA cG) (bP (an mb a (l:=C.enc) rfl rfl (pW (by simp[bM.enc,eG]))) ?_)));refine aB (aA (am p a rfl (bH ?_)));have a:=a.cK (aF p 0 (C.enc++[.slice (some ⟨e,g,none⟩) C.aL.toNat k])) (dC C.aL.toNat fun i=>aF e (g+i*3) (F7 C.lines C.aL.toNat i (f i))) (dC C.aL.toNat fun i=>ku C.lines C.aL.toNat mem i (f i));have a:=(a.jN).cK (aF p 0 (C.enc++[.slice (some ⟨e,g,none⟩) C.aL.toNat k])) (dC C.aL.toNat fun i=>aF e (g+i*3) (F7 C.lines C.aL.toNat i (f i))) (dC C.aL.toNat fun i=>ku C.lines C.aL.toNat mem i (f i));refine Yt (n:=C.lines) (B:=C.aL.toNat) (b:=e) (o:=g) (cap:=k) (C:=C) (mem:=mem) (f:=f) hb.2.2 t.2.2 ?_ C.aL.toNat 0 h [] (by omega) (by simpa using a);intro h a;refine v p _ ?_;have a:=sI (b:=e) (o:=g) (cap:=k) (a.cK (aF p 0 (C.enc++[.slice (some ⟨e,g,none⟩) C.aL.toNat k])) (hole G 3 290 (some ⟨e,g,none⟩) k C.aL.toNat e g) (dC C.aL.toNat fun i=>fK C.lines C.aL.toNat e (g+i*3) i mem));have a:=a.cF (cU 3 290 (some ⟨b,o,none⟩) cap (C.aL.toNat,(List.range C.aL.toNat).flatMap fun i=>F7 C.lines C.aL.toNat i (f i))) (dC C.aL.toNat fun i=>ku C.lines C.aL.toNat mem i (f i));have a:Hs G h (dC C.aL.toNat (fun i=>fK C.lines C.aL.toNat b (o+i*3) i mem)::hole G 3 290 (some ⟨b,o,none⟩) cap C.aL.toNat b o::_):=Hs.uk (W:=3) (c:=F7 C.lines C.aL.toNat) (d:=ku C.lines C.aL.toNat mem) f (fun _ _=>rfl) hb.2.1 a;have a:=sI (b:=b) (o:=o) (cap:=cap) (a.cK (aF mb 0 (C.enc++[.slice (some ⟨b,o,none⟩) C.aL.toNat cap])) (hole G 3 290 (some ⟨b,o,none⟩) cap C.aL.toNat b o) (dC C.aL.toNat fun i=>fK C.lines C.aL.toNat b (o+i*3) i mem));exact a.to
end
section
set_option maxRecDepth 100000
variable {G:Bg} {h:AH} {L L':List HP} {Q:Value->AH->Prop}
end
section
set_option maxRecDepth 100000
variable {G:Bg} {h:AH} {L L':List HP} {Q:Value->AH->Prop}
def zH (l:List Int):List (List Value):=l.map fun x=>[I x]
theorem tT (l:List Int):(zH l).length=l.length:=by simp[zH]
theorem Nz (l:List Int):(zH l).flatten=l.map I:=by
 unfold zH;induction l with
 |nil=>rfl
 |cons x l a=>rw[List.map_cons,List.flatten_cons,a];rfl
theorem Zq (l:List Int):(l.map I).all dV=true:=by
 induction l with
 |nil=>rfl
 |cons x l a=>rw[List.map_cons,List.all_cons,a];rfl
def Tt (p:List Ins):List (List Value):=p.map Ins.enc
theorem Kp (p:List Ins):(Tt p).length=p.length:=by simp[Tt]
theorem Po (p:List Ins):(Tt p).flatten=Ak p:=by
 unfold Tt Ak;rw[List.flatMap_def]
theorem ah (p:List Ins):(Ak p).all dV=true:=by
 unfold Ak;induction p with
 |nil=>rfl
 |cons x l a=>rw[List.flatMap_cons,List.all_append,a];rfl
def Di (G:Bg) (v:Value) (l:List Int):Prop:=kU G 1 v (zH l).length (fun i=>(zH l).getD i [])
def Yu (G:Bg) (v:Value) (p:List Ins):Prop:=kU G 4 v (Tt p).length (fun i=>(Tt p).getD i [])
structure aAg (G:Bg) (pv wv ov vv:Value) (ps:List (List Ins)) (ws os vs:List Int):Prop where
 ps:∃vi:List Value,vi.length=ps.length/\kU G 1 pv (vi.map fun x=>[x]).length (fun i=>(vi.map fun x=>[x]).getD i [])/\∀(i:Nat) (v:Value) (p:List Ins),vi[i]?=some v->ps[i]?=some p->Yu G v p
 ws:Di G wv ws
 os:Di G ov os
 vs:Di G vv vs
theorem sB {v:Value} {l:List Int} (a:Di G v l) (c:Hs G h L):Hs G h (qU G 1 3 v (zH l)::L):=pI (by simp[zH]) a c
theorem Iv {v:Value} {p:List Ins} (a:Yu G v p) (c:Hs G h L):Hs G h (qU G 4 155 v (Tt p)::L):=pI (by simp[Tt,Ins.enc]) a c
theorem uQ {W n:Nat} {v:Value} {at':Nat->List Value} {k:Value->Prop} (f:kU G W v n at') (e:k (I n)):aY (iK v) k:=by
 obtain⟨a,c,rfl,_⟩:=f;exact bH e
theorem Y0 {_C:bM} {pv:Value} {t2 t3 t4 t5:Value} {vi:List Value} {ps:List (List Ins)} (F:vi.length=ps.length) (y:kU G 1 pv (vi.map fun x=>[x]).length (fun i=>(vi.map fun x=>[x]).getD i []))
  (u:∀(i:Nat) (v:Value) (p:List Ins),vi[i]?=some v->ps[i]?=some p->Yu G v p) (t:Ob G 0 mY) (E:ps.length<=1000)
  (B:uR ps≠0->∀k,Hs G k L->Q (.tuple ⟨[.pointer none,I (uR ps)]⟩) k) (D:uR ps=0->∀k,Hs G k L->Dd 28 5 [] Q [pv,t2,t3,t4,t5] k):
  ∀(f i:Nat) (h:AH),i+f=ps.length->uR ps=uR (ps.drop i)->Hs G h L->Dd 28 3 [] Q [pv,t2,t3,t4,t5,pv,(I ps.length),(I i)] h:=by
 intro f
 induction f with
 |zero=>
  intro i h w a g
  rw[List.drop_of_length_le (by omega)] at a
  exact bW (aM (aaa (D a _ g)))
 |succ f A=>
  intro i h w a g
  obtain⟨p,z,s⟩:=jP (l:=ps) (i:=i) (by omega)
  obtain⟨v,q,_⟩:=jP (l:=vi) (i:=i) (by omega)
  rw[s,uR] at a
  have g:=pI (e:=3) (by simp) y g
  refine bW (aM (aad (bW (uK g (x:=[v]) (by simp[q]) rfl (rZ (p:=p) t (Iv (u i v p q z) g.tail) fun h g=>aH rfl (aH rfl (aT (aQ (fun c=>?_) (fun c=>?_)))))))))
  .rw[aNa c] at a;rw[<-a];exact B (by rw[a];exact c) _ g.tail
  .rw[aN9 c] at a;exact bW (aac (A (i+1) h (by omega) a g.tail))
theorem Yv {C:bM} (hC:C.Ok) {t1 t2 t3 t5 vv:Value} {mb:Nat} {vs:List Int} (u:Di G vv vs) (s:Ob G 1 gA) (y:vs.length=C.lines*2)
  (k:∀e,Hs G e (fJ G C.lines mb C (words oN vs 0)::L)->Dd 28 11 [] Q [t1,t2,t3,t5,(pt mb 0 0)] e):
  ∀(f i:Nat) (mem:Nat->Ln) (h:AH),i+f=vs.length->words oN vs 0=words mem (vs.drop i) i->Hs G h (fJ G C.lines mb C mem::L)->Dd 28 9 [] Q [t1,t2,t3,t5,(pt mb 0 0),vv,(I vs.length),(I i)] h:=by
 have t:=bM.gI hC
 intro f
 induction f with
 |zero=>
  intro i mem h q c a
  rw[List.drop_of_length_le (by omega),words] at c
  rw[c] at k
  exact bW (aM (aaa (k _ a)))
 |succ f w=>
  intro i mem h q c a
  obtain⟨x,v,g⟩:=jP (l:=vs) (i:=i) (by omega)
  rw[g,words] at c
  have a:=sB u a
  refine bW (aM (aad (bW (uK a (x:=[I x]) (by simp[zH,v]) rfl (N0 hC s a.tail (by omega) fun h a=>aT (aaa (bW (aac (w (i+1) _ h (by omega) c a)))))))))
end
end Go.Proofs.YtcjlkjeeifemhaaGreatDoor.A
namespace Go.Proofs.YtcjlkjeeifemhaaGreatDoor.H
open Go Go.Ab Go.Hm
section
set_option maxRecDepth 100000
variable {G:Bg} {h:AH} {L L':List HP}
section
variable {hb p mb b o cap l:Nat} {C:bM} {H:kP} {n:aK} {r:Row} {m:Ln} {Q:Value->AH->Prop}
theorem yk (hC:C.Ok) (e:Ob G 1 gA) (u:l<C.lines) (k:n.line=l) (hc:0<=r.served.core/\r.served.core<4) (a:Hs G h (qO G hb p mb b o cap l C H n r m++L))
  (i:∀v t,Hs G t (eF v ((r.qW n).rest l m).2::fP G hb C (bY H l (((r.qW n).rest l m).1,m))::L)->Q v t):Dd 286 8 [] Q [(pt hb 0 0),(pt p 0 0),(pt b (o+l*25) 0)] h:=by
 simp only[qO,List.cons_append,List.nil_append] at a
 obtain⟨wa,wc,a⟩:=dK a
 refine bW (aU a ?_)
 intro w h a
 refine aA (aN a (by decide) (l:=[I n.d0,I n.d1]) rfl rfl (aB (aA (ay a ?_))))
 intro h a
 have s:=a
 refine aB (aA (ay a ?_))
 intro h a
 refine bP cG (bP (aA cG) (bP (aN s (by decide) (l:=[I n.d0,I n.d1]) rfl rfl (pW (by simp[nN]))) ?_))
 have a:=dU b (o+l*25) (r.qW n) wa wc a rfl rfl rfl
 have a:Hs G h (qO G hb p mb b o cap l C H n (r.qW n) m++L):=by
  simp only[qO,List.cons_append,List.nil_append];exact a.to
 have g:=a
 simp only[qO,List.cons_append,List.nil_append] at a
 have q:=a
 obtain⟨wa,wc,a⟩:=dK a
 refine(aB (aA (aN a (by decide) (l:=[.bool (r.asked 0),.bool (r.asked 1),.bool (r.asked 2),.bool (r.asked 3)]) rfl rfl (aI (c:=[.bool false,.bool false,.bool false,.bool false]) rfl (ur (cZ (fun f=>?_) (fun f=>?_)))))))
 .have f:(r.qW n).quiet=false:=by unfold Row.quiet;rw[show(r.qW n).asked=r.asked from rfl,f];rfl
  simp only[Row.rest,f,Bool.false_eq_true,if_false] at i
  exact i _ _ (pP (eD hb C H l (r.qW n) m _ mb b o cap u rfl q)).to
 .exact av (r:=r.qW n) hC e u k hc (by unfold Row.quiet;rw[show(r.qW n).asked=r.asked from rfl,f];rfl) g i
end
theorem qz {C:bM} (hC:C.Ok) {hb l:Nat} {H:kP} {n:aK} {Q:Value->AH->Prop} (f:Ob G 1 gA) (a:Hs G h L) [m:Has (fP G hb C) L H L'] (s:l<C.lines) (k:n.line=l) (q:0<=n.core/\n.core<4) (hc:0<=(H l).1.served.core/\(H l).1.served.core<4)
  (g:∀v E,Hs G E (eF v (sV.Oj (H l) l n).2::fP G hb C (bY H l (sV.Oj (H l) l n).1)::L')->Q v E):
  Cl Pr K 286 [pt hb 0 0,.agg ⟨n.enc⟩] h Q:=by
 have a:=m.of a
 simp only[sV.Oj] at g
 refine cW (dB a ?_)
 intro p h a
 refine aU a ?_
 intro J h a
 obtain⟨mb,b,o,cap,a⟩:=D9 s (a.front (fP G hb C H))
 obtain⟨wa,wc,a⟩:=dK a
 refine aB (aA (aC a rfl (aA (aC a rfl ?_))))
 rw[k]
 refine dF s (aU a ?_)
 intro I h a
 refine aA (aC a rfl (aB (aA (iI q.1 q.2 (aFh (H l).1 a rfl q ?_)))))
 intro h a
 have i:=dU b (o+l*25) ((H l).1.lX n) wa wc a rfl rfl rfl
 refine aB (aA (aA (aC a rfl (aT (aQ (fun x=>bW ?_) (fun x=>bW ?_))))))
 .simp only[Row.heard,aNa x] at g;unfold Row.Fm at g;refine aA (aC i rfl (E2 i q fun h a=>?_));refine aA (aC a rfl (cZ (fun t=>bW ?_) (fun t=>?_)))
  .rw[aNa ⟨x,t⟩] at g;refine aU a ?_;intro D h a;refine aB (aA (aC a rfl (aA (aC a rfl ?_))));rw[k];refine aA (aN a (by decide) (l:=Nn (n.d0,n.d1)) rfl rfl (J9 hC f a s fun h a=>?_));generalize A:((H l).1.lX n).leave n.core=r2 at a g;have w:0<=r2.served.core/\r2.served.core<4:=by rw[<-A];exact hc
   have a:Hs G h (qO G hb p mb b o cap l C H n r2 (n.d0,n.d1)++L'):=by
    simp only[qO,List.cons_append,List.nil_append];exact a.to
   have z:=a
   simp only[qO,List.cons_append,List.nil_append] at a
   have i:=a
   obtain⟨wa,wc,a⟩:=dK a
   refine(aB (aA (aN a (by decide) (l:=[.bool (r2.asked 0),.bool (r2.asked 1),.bool (r2.asked 2),.bool (r2.asked 3)]) rfl rfl (aI (c:=[.bool false,.bool false,.bool false,.bool false]) rfl (ur (cZ (fun y=>?_) (fun y=>?_)))))))
   .have y:r2.quiet=false:=by unfold Row.quiet;rw[y];rfl
    simp only[Row.rest,y,Bool.false_eq_true,if_false] at g
    exact g _ _ (pP (eD hb C H l r2 (n.d0,n.d1) _ mb b o cap s rfl i)).to
   .exact av hC f s k w (by unfold Row.quiet;rw[y];rfl) z g
  .rw[aN9 (by rw[t];simp)] at g;generalize A:((H l).1.lX n).leave n.core=r2 at a g;have w:0<=r2.served.core/\r2.served.core<4:=by rw[<-A];exact hc
   refine Zr hC f s k w (m:=(H l).2) (H:=H) (mb:=mb) (b:=b) (o:=o) (cap:=cap) (L:=L') ?_ g
   simp only[qO,List.cons_append,List.nil_append,eJ]
   exact a.to
 .have F:(H l).1.Fm (H l).2 n=(H l).2:=by unfold Row.Fm;rw[aN9 (fun e=>x e.1)]
  simp only[Row.heard,aN9 x,F] at g
  refine aA (aC a rfl (aT (aQ (fun t=>bW ?_) (fun t=>bW ?_))))
  .simp only[aNa t] at g;refine aB (aA (ay a ?_));intro h a;refine aU a ?_;intro D h a;refine aA (aC a rfl (aA (aC a rfl (wm ?_))));have B:=a;refine aB (aA (iI q.1 q.2 (bt {(H l).1.lX n with owner:= -1} a rfl q ?_)));intro h a;refine bP cG (bP (aA cG) (bP (aC B rfl eG) (bP (aB cG) (bP (aA cG) ?_))));have i:=dU b (o+l*25) (((H l).1.lX n).Fu n) wa wc a rfl rfl rfl;refine aA (aC a rfl (cZ (fun u=>?_) (fun u=>?_)))
   .simp only[u,if_true] at g;refine yk (r:=((H l).1.lX n).Fu n) hC f s k hc (m:=(H l).2) (H:=H) (mb:=mb) (b:=b) (o:=o) (cap:=cap) (L:=L') ?_ g;simp only[qO,List.cons_append,List.nil_append,eJ];exact i.to
   .simp only[u,Bool.false_eq_true,if_false] at g;refine Zr (r:=((H l).1.lX n).Fu n) hC f s k hc (m:=(H l).2) (H:=H) (mb:=mb) (b:=b) (o:=o) (cap:=cap) (L:=L') ?_ g;simp only[qO,List.cons_append,List.nil_append,eJ];exact i.to
  .simp only[aN9 t] at g;refine aA (aC a rfl (cZ (fun u=>?_) (fun u=>?_)))
   .simp only[u,if_true] at g;refine yk (r:=(H l).1.lX n) hC f s k hc (m:=(H l).2) (H:=H) (mb:=mb) (b:=b) (o:=o) (cap:=cap) (L:=L') ?_ g;simp only[qO,List.cons_append,List.nil_append,eJ];exact i.to
   .simp only[u,Bool.false_eq_true,if_false] at g;refine Zr (r:=(H l).1.lX n) hC f s k hc (m:=(H l).2) (H:=H) (mb:=mb) (b:=b) (o:=o) (cap:=cap) (L:=L') ?_ g;simp only[qO,List.cons_append,List.nil_append,eJ];exact i.to
end
section
set_option maxRecDepth 100000
variable {G:Bg} {h:AH} {L L':List HP}
theorem N1 {b o:Nat} {line state x:Int} {r:Row} {Q:Value->AH->Prop} (a:Hs G h L) [m:Has (eC b o) L r L'] (e:∀v c,Hs G c (eF v (gJ line state (r.jL x))::eC b o (r.gP (r.jL x))::L')->Q v c):
  Cl Pr K 238 [pt b o 0,I x] h fun v c=>Cl Pr K 237 [pt b o 0,I line,I state,v] c Q:=by
 refine Xx (m.of a) fun p q h a=>?_
 have a:=Lt (a.front (eC b o r))
 refine Dp (G:=G) (r:=r) (A:=Da b o p q x r) (L:=L') kj bm uI (by kernel_rfl) ?_ fun v h a=>e v h ?_
 .simp only[Da];exact a.to
 .have a:=a.jN.unpack;have a:Hs G h (mi b o r::Jy b o (r.gP (r.jL x))::eF v (gJ line state (r.jL x))::L'):=a.to;exact(N2 (r:=r.gP (r.jL x)) a).jN
theorem kh {b o:Nat} {line state:Int} {e:TypeId} {a:Option Addr} {c:Nat} {r:Row} {x:Int} {cs:List Value} {Q:Value->AH->Prop} (s:0<=x/\x<4) (f:Hs G h L) [m:Has (cU 1 e a c) L (1,cs) L'] (i:cs=[I x]) {M:List HP} [m2:Has (eC b o) L' r M] (q:∀v g,Hs G g (eF v (gJ line state [x.toNat])::eC b o (r.gP [x.toNat])::M)->Q v g):
  Cl Pr K 272 [.slice a 1 c] h fun v g=>Cl Pr K 237 [pt b o 0,I line,I state,v] g Q:=by
 subst i
 have f:Hs G h (cU 1 e a c (1,[x].map I)::eC b o r::M):=f.perm (m.perm.trans (m2.perm.cons _))
 refine Pn (e:=e) (xs:=[x]) rfl f fun p h f=>?_
 have f:=Lt (f.front (eC b o r))
 have t:ez Pr K G 338 [] [pt p 0 0] (Nv e p a c [x]) ([x.toNat].map fun(c:Nat)=>[I c]):=by
  have:=Ez (G:=G) (e:=e) (p:=p) (a:=a) (c:=c) (xs:=[x]) (by simp);simp only[List.map_cons,List.map_nil,Int.toNat_of_nonneg s.1] at this ⊢;exact this
 refine Dp (G:=G) (r:=r) (A:=Nv e p a c [x]) (L:=mi b o r::M) t (fun c k=>by simp at k;omega) (by simp) (by kernel_rfl) ?_ fun v h f=>q v h ?_
 .exact f.to
 .have f:Hs G h (mi b o r::Jy b o (r.gP [x.toNat])::eF v (gJ line state [x.toNat])::M):=f.to;exact(N2 (r:=r.gP [x.toNat]) f).jN
end
section
set_option maxRecDepth 100000
variable {G:Bg} {h:AH} {L L':List HP}
set_option maxHeartbeats 2000000 in
theorem Kf {C:bM} (hC:C.Ok) {hb l:Nat} {H:kP} {n:aK} {world:Int} {Q:Value->AH->Prop} (y:Ob G 1 gA) (f:Hs G h L) [m:Has (fP G hb C) L H L'] (x:l<C.lines) (D:0<=n.core/\n.core<4) (u: -1<=(H l).1.owner/\(H l).1.owner<4)
  (g:∀v w,Hs G w (eF v ((H l).1.get l (H l).2 n world).2::fP G hb C (bY H l (((H l).1.get l (H l).2 n world).1,(H l).2))::L')->Q v w):
  Cl Pr K 235 [pt hb 0 0,I l,I world,.agg ⟨n.enc⟩] h Q:=by
 have f:=m.of f
 simp only[Row.get] at g
 refine cW (dB f ?_)
 intro p h f
 obtain⟨mb,b,o,cap,f⟩:=D9 x (f.front (fP G hb C H))
 obtain⟨wa,wc,f⟩:=dK f
 refine aB (aA (aC f rfl (dF x (aU f ?_))))
 intro P h f
 refine aN f (by decide) (l:=n.enc) rfl rfl (aB (aA (ay f ?_)))
 intro h f
 have E:=f
 refine aB (aA (ay f ?_))
 intro h f
 refine aB (aA (ay f ?_))
 intro h f
 refine bP cG (bP cG (bP cG (bP (aN E (by decide) (l:=n.enc) rfl rfl (pW (by simp[nN,aK.enc]))) (bP eG (bP eG ?_)))))
 refine aA (aC f rfl (aZ ?_))
 have f:=dU b (o+l*25) ((H l).1.serve n world) wa wc f rfl rfl rfl
 have k:((H l).1.serve n world).served.core=n.core:=rfl
 have u: -1<=((H l).1.serve n world).owner/\((H l).1.serve n world).owner<4:=u
 generalize O:(H l).1.serve n world=r at f g k u
 have gH:∀(q:Row),q.served.core=n.core->∀h,Hs G h (eC b (o+l*25) q::aF hb 0 (lF mb C b o cap)::fJ G C.lines mb C (fun i=>(H i).2)::hole G 25 230 (some ⟨b,o,none⟩) cap C.lines b o::yX b o C.lines H l::L')->
   (∀v w,Hs G w (eF v (q.gH l (q.Z9 (H l).2)).2::fP G hb C (bY H l ((q.gH l (q.Z9 (H l).2)).1,(H l).2))::L')->Q v w)->Cl Pr K 307 [pt hb 0 0,I l] h Q:=fun q B h f g=>by
  have f:=eD hb C H l q (H l).2 _ mb b o cap x eJ.symm f
  refine Em hC y f x (by simp only[jA,B];exact D) fun v h f=>g _ _ ?_
  simp only[jA,Cg] at f
  exact f.to
 have s:∀(q:Row) (N:List aK) v h,Hs G h (eF v N::eC b (o+l*25) q::aF hb 0 (lF mb C b o cap)::fJ G C.lines mb C (fun i=>(H i).2)::hole G 25 230 (some ⟨b,o,none⟩) cap C.lines b o::yX b o C.lines H l::L')->Hs G h (eF v N::fP G hb C (bY H l (q,(H l).2))::L'):=fun q N v h f=>
  (eD hb C H l q (H l).2 _ mb b o cap x eJ.symm f).to
 refine aQ (fun z=>?_) (fun z=>?_)
 .simp only[aNa z,Row.getM,k] at g;refine bW (aA (aC f rfl (vR f fun f=>aT (aQ (fun t=>?_) (fun t=>?_)))))
  .rw[aNa t] at g;refine aA (aC f rfl (N1 f fun v h f=>g _ _ ?_));exact s _ _ _ _ f.to
  .rw[aN9 t] at g;exact gH r k _ f.to g
 .simp only[aN9 z,Row.bu] at g;refine bW (aU f ?_);intro J h f;obtain⟨wa,wc,f⟩:=dK (f.front (eC b (o+l*25) r));refine aB (aA (aC f rfl (aA (aC f rfl (aZ (aQ (fun t=>bW ?_) (fun t=>bW ?_)))))))
  .have F:r.rM={r with owner:= -1}:=by unfold Row.rM;rw[aNa (by rw[k];exact t)]
   rw[F] at g
   simp only[ne_eq,not_true_eq_false,if_false] at g
   refine aB (aA (ay f ?_))
   intro h f
   refine aB (aA (aC f rfl (aT (aJ (by simp) ?_))))
   have f:=dU b (o+l*25) {r with owner:= -1} wa wc f rfl rfl rfl
   exact gH {r with owner:= -1} k _ f.to g
  .have F:r.rM=r:=by unfold Row.rM;rw[aN9 (by rw[k];exact t)]
   rw[F] at g
   refine aB (aA (aC f rfl (aT (aQ (fun A=>?_) (fun A=>?_)))))
   .rw[aNa A] at g;refine aB (aA (aC f rfl (aI (c:=[I r.owner]) rfl (dA f rfl rfl rfl ?_))));intro a h f;have f:=dU b (o+l*25) r wa wc f rfl rfl rfl;refine kh (e:=3) (by omega) f rfl fun v h f=>g _ _ ?_;exact s _ _ _ _ f.to
   .rw[aN9 A] at g;have f:=dU b (o+l*25) r wa wc f rfl rfl rfl;exact gH r k _ f.to g
end
section
set_option maxRecDepth 100000
variable {G:Bg} {h:AH} {L L':List HP}
theorem vB {C:bM} {hb mb b o cap:Nat} {x:Int} {Q:Value->AH->Prop} (e:Hs G h L) [m:Has (aF hb 0) L (lF mb C b o cap) L'] (c:Q (.bool (decide (C.has x))) h):Cl Pr K 101 [pt hb 0 0,I x] h Q:=by
 refine cW (Yy (eN (dE (aQ (fun a=>?_) (fun a=>?_)))));refine aB (aA (aC e rfl (bH (aM ?_))));show Q _ _;rw[show decide (x<(C.lines:Int))=decide (C.has x) from decide_eq_decide.2 ⟨fun h=>⟨a,h⟩,fun h=>h.2⟩];exact c;show Q _ _;rw[show false=decide (C.has x) from(decide_eq_false (fun h=>a h.1)).symm];exact c
theorem Ib {C:bM} {H:kP} {b o l:Nat} (a:l<C.lines) (c:Hs G h L) [k:dQ (dC C.lines fun i=>eC b (o+i*25) (H i).1) L L']:Hs G h (eC b (o+l*25) (H l).1::yX b o C.lines H l::L'):=
 (c.front (dC C.lines fun i=>eC b (o+i*25) (H i).1)).mD l a
theorem Bc (C:bM) (H:kP) (hb mb b o cap:Nat) {a L2 c e:List HP} (f:Hs G h L) [g:dQ (aF hb 0 (lF mb C b o cap)) L a] [k:dQ (fJ G C.lines mb C (fun i=>(H i).2)) a L2]
  [q:dQ (hole G 25 230 (some ⟨b,o,none⟩) cap C.lines b o) L2 c] [s:dQ (dC C.lines fun i=>eC b (o+i*25) (H i).1) c e]:Hs G h (fP G hb C H::e):=
 sH (mb:=mb) (b:=b) (o:=o) (cap:=cap) (f.perm (g.perm.trans ((k.perm.trans ((q.perm.trans (s.perm.cons _)).cons _)).cons _)))
section
variable {C:bM} {hb mb b o cap p l:Nat} {H:kP} {n:aK} {Q:Value->AH->Prop}
theorem aF4 (hC:C.Ok) (u:Ob G 1 gA) (s:l<C.lines) (w:n.line=l) (t:0<=n.core/\n.core<4) (A:(H l).1.Inv) (D:(H l).1.waits.length<2^30)
  (f:Hs G h (aF p 0 n.enc::aF hb 0 (lF mb C b o cap)::fJ G C.lines mb C (fun i=>(H i).2)::hole G 25 230 (some ⟨b,o,none⟩) cap C.lines b o::dC C.lines (fun i=>eC b (o+i*25) (H i).1)::L))
  (g:∀v z,Hs G z (eF v (sV.take (H l) l n).2.1::fP G hb C (bY H l (sV.take (H l) l n).1)::L)->Q (.tuple ⟨[v,I (sV.take (H l) l n).2.2]⟩) z):
  Dd 211 6 [] Q [(pt hb 0 0),(pt p 0 0)] h:=by
 unfold sV.take at g
 refine bW (aU f ?_)
 intro E h f
 have f:=Ib (H:=H) (b:=b) (o:=o) s f
 have same:∀h,Hs G h (eC b (o+l*25) (H l).1::yX b o C.lines H l::aF p 0 n.enc::aF hb 0 (lF mb C b o cap)::fJ G C.lines mb C (fun i=>(H i).2)::hole G 25 230 (some ⟨b,o,none⟩) cap C.lines b o::L)->Hs G h (eF (.slice none 0 0) []::fP G hb C (bY H l (H l))::L):=fun h f=>
  pP ((eD hb C H l (H l).1 (H l).2 _ mb b o cap s eJ.symm f).to)
 have B:Hs G h (eC b (o+l*25) (H l).1::yX b o C.lines H l::aF p 0 n.enc::aF hb 0 (lF mb C b o cap)::fJ G C.lines mb C (fun i=>(H i).2)::hole G 25 230 (some ⟨b,o,none⟩) cap C.lines b o::L):=f.to
 obtain⟨wa,wc,f⟩:=dK f
 refine aB (aA (aC f rfl (aA (aC f rfl ?_))))
 rw[w]
 refine dF s (aA (aC f rfl (aZ (aQ (fun y=>bW ?_) (fun y=>bW ?_)))))
 .rw[aNa y] at g;refine aU f ?_;intro x h f;refine aB (aA (aC f rfl (bT (dT (cZ (fun k=>?_) (fun k=>?_))))))
  .refine aB (aA (aA (aC f rfl (aA (aC f rfl (aT (aQ (fun q=>?_) (fun q=>bW ?_))))))))
   .rw[aNa (.inr q)] at g;exact g _ _ (same _ (dU b (o+l*25) (H l).1 wa wc f rfl rfl rfl).to)
   .rw[aN9 (by rw[k];simpa using q)] at g;have f:=dU b (o+l*25) (H l).1 wa wc f rfl rfl rfl;refine cm f fun h f=>g _ _ ?_;exact pP ((eD hb C H l (H l).1.free (H l).2 _ mb b o cap s eJ.symm f).to)
  .rw[aNa (.inl k)] at g;exact g _ _ (same _ (dU b (o+l*25) (H l).1 wa wc f rfl rfl rfl).to)
 .rw[aN9 y] at g;refine aZ (aQ (fun k=>bW ?_) (fun k=>bW ?_))
  .rw[aNa k] at g;refine aU f ?_;intro x h f;refine aA (aC f rfl (aB (aA (iI t.1 t.2 (aC f (v:= .bool ((H l).1.asked n.core.toNat)) ?_ (bT (dT (cZ (fun q=>?_) (fun q=>?_)))))))))
   .have:n.core.toNat=0\/n.core.toNat=1\/n.core.toNat=2\/n.core.toNat=3:=by omega
    rcases this with e|e|e|e<;>rw[e]<;>rfl
   .rw[aN9 (by rw[q];simp)] at g;refine aN f (by decide) (l:=n.enc) rfl rfl ?_;have f:=dU b (o+l*25) (H l).1 wa wc f rfl rfl rfl;have f:=eD hb C H l (H l).1 (H l).2 _ mb b o cap s eJ.symm f;rw[show bY H l ((H l).1,(H l).2)=H from F5] at f;exact qz hC u f s w t A.core fun v h f=>g _ _ f.to
   .rw[aNa q] at g;exact g _ _ (same _ (dU b (o+l*25) (H l).1 wa wc f rfl rfl rfl).to)
  .rw[aN9 k] at g;refine aU f ?_;intro x h f;refine aB (aA (aC f rfl (aN f (by decide) (l:=n.enc) rfl rfl (aI (c:=n.enc) rfl ?_))));refine gT f rfl rfl rfl rfl rfl ?_;intro a h f;refine nY f (by omega) ?_;intro a4 c4 h f;dsimp only;refine aB (aA (ay f ?_));intro h f;refine bP cG (g _ _ ?_);have f:=dU b (o+l*25) ((H l).1.wait n) a4 c4 f (by simp[Row.enc,dH,Row.wait]) (by simp[Row.wait]) (by simp[xM,Row.wait]);exact pP ((eD hb C H l ((H l).1.wait n) (H l).2 _ mb b o cap s eJ.symm f).to)
end
end
section
set_option maxRecDepth 100000
variable {G:Bg} {h:AH} {L L':List HP}
section
variable {C:bM} {hb mb b o cap p l:Nat} {H:kP} {n:aK} {Q:Value->AH->Prop}
theorem aHe (hC:C.Ok) (k:Ob G 1 gA) (w:yD C H (2^30 - 1)) {t:Value}
  (a:Hs G h (aF p 0 n.enc::aF hb 0 (lF mb C b o cap)::fJ G C.lines mb C (fun i=>(H i).2)::hole G 25 230 (some ⟨b,o,none⟩) cap C.lines b o::dC C.lines (fun i=>eC b (o+i*25) (H i).1)::L)) (s:fT n.kind)
  (c:∀v u,Hs G u (eF v (fF C H n).2.1::fP G hb C (fF C H n).1::L)->Q (.tuple ⟨[v,I (fF C H n).2.2]⟩) u):Dd 211 4 [] Q [(pt hb 0 0),(pt p 0 0),t] h:=by
 unfold fF at c
 rw[aN9 (by simpa using s)] at c
 have z:C.aG<=4:=hC.1.2
 have no:¬((0<=n.core/\n.core<C.aG)/\C.has n.line)->∀h,Hs G h (aF p 0 n.enc::aF hb 0 (lF mb C b o cap)::fJ G C.lines mb C (fun i=>(H i).2)::hole G 25 230 (some ⟨b,o,none⟩) cap C.lines b o::dC C.lines (fun i=>eC b (o+i*25) (H i).1)::L)->Q (.tuple ⟨[.slice none 0 0,I 10]⟩) h:=fun A h a=>by
  rw[aN9 A] at c;exact c _ _ (pP (Bc C H hb mb b o cap a)).to
 refine bW (aU a ?_)
 intro B h a
 refine aA (aC a rfl (aM (aQ (fun x=>no (by omega) _ a.to) (fun x=>?_))))
 refine aA (aC a rfl (aB (aA (aA (aC a rfl (dE (aQ (fun y=>no (by omega) _ a.to) (fun y=>?_))))))))
 refine aA (aC a rfl (vB a (bT (dT (aQ (fun g=>?_) (fun g=>no (fun e=>g e.2) _ a.to))))))
 rw[aNa ⟨by omega,g⟩] at c
 obtain⟨l,q⟩:=Int.eq_ofNat_of_zero_le g.1
 have f:l<C.lines:=by have:=g.2;omega
 have e:n.line.toNat=l:=by omega
 rw[e] at c
 rw[q] at c
 dsimp only at c
 exact aF4 (mb:=mb) (b:=b) (o:=o) (cap:=cap) hC k f q (by omega) (w l f).1 (by have:=(w l f).2;omega) a.to c
end
theorem Dt {C:bM} (hC:C.Ok) {hb:Nat} {H:kP} {n:aK} {Q:Value->AH->Prop} (e:Ob G 1 gA) (x:yD C H (2^30 - 1)) (c:Hs G h L) [m:Has (fP G hb C) L H L']
  (f:∀v i,Hs G i (eF v (fF C H n).2.1::fP G hb C (fF C H n).1::L')->Q (.tuple ⟨[v,I (fF C H n).2.2]⟩) i):Cl Pr K 211 [pt hb 0 0,.agg ⟨n.enc⟩] h Q:=by
 refine cW (dB (m.of c) ?_)
 intro p h c
 obtain⟨mb,b,o,cap,c⟩:=oA c.jN
 have a:∀t,fT n.kind->Dd 211 4 [] Q [(pt hb 0 0),(pt p 0 0),t] h:=fun t g=>aHe (mb:=mb) (b:=b) (o:=o) (cap:=cap) hC e x c.to g f
 have no:¬fT n.kind->Q (.tuple ⟨[.slice none 0 0,I 15]⟩) h:=fun y=>by
  unfold fF at f;rw[aNa y] at f;exact f _ _ (pP (Bc C H hb mb b o cap c)).to
 refine cS (bX (bW (aA (aC c rfl (aZ (aQ (fun k=>bW (bE k (a _ (by unfold fT;omega)))) (fun k=>bW (aZ (aQ (fun q=>bW (bE q (a _ (by unfold fT;omega)))) (fun q=>bW ?_))))))))))
 refine aZ (aQ (fun s=>bW (bE s (a _ (by unfold fT;omega)))) (fun s=>bW ?_))
 refine aZ (aQ (fun u=>bW (bE u (a _ (by unfold fT;omega)))) (fun u=>bW ?_))
 exact aZ (aQ (fun w=>a _ (by unfold fT;omega)) (fun w=>no (by unfold fT;omega)))
theorem vu {C:bM} {hb:Nat} {H:kP} {x:Int} {Q:Value->AH->Prop} (q:yD C H (2^30 - 1)) (e:Hs G h L) [m:Has (fP G hb C) L H L']
  (f:∀k,Hs G k (fP G hb C (iV C H x).1::L')->Q (I (iV C H x).2) k):Cl Pr K 297 [pt hb 0 0,I x] h Q:=by
 obtain⟨mb,b,o,cap,e⟩:=oA (m.of e)
 unfold iV at f
 refine cW (cS (bX (bW (vB e (bT (dT (aQ (fun g=>bW ?_) (fun g=>?_))))))))
 .rw[aNa g] at f;obtain⟨l,rfl⟩:=Int.eq_ofNat_of_zero_le g.1;simp only[sV.aEn,Int.toNat_natCast] at f;have i:l<C.lines:=by have:=g.2;omega
  have e:=Ib (H:=H) (b:=b) (o:=o) i e
  obtain⟨wa,wc,e⟩:=dK e
  have s:=(q l i).2
  refine aB (aA (aC e rfl (dF i (aB (aA (aC e rfl (aI (c:=(Ca l).enc) rfl (aI (c:=(Ca l).enc) rfl ?_))))))))
  refine dA e rfl rfl rfl ?_
  intro a h e
  refine nY e (by omega) ?_
  intro a4 c4 h e
  dsimp only
  refine aB (aA (ay e ?_))
  intro h e
  refine f _ ?_
  have e:=dU b (o+l*25) ((H l).1.wait (Ca l)) a4 c4 e (by simp[Row.enc,dH,Row.wait]) (by simp[Row.wait]) (by simp[xM,Row.wait])
  exact(eD hb C H l ((H l).1.wait (Ca l)) (H l).2 _ mb b o cap i eJ.symm e).to
 .rw[aN9 g] at f;exact f _ (Bc C H hb mb b o cap e).to
structure Xw (G:Bg) (A:HP) (jv:Value) (j:Int->Int->Int×Bool):Prop where
 ne:∀k:Value->Prop,k (.bool false)->aY (Nl true .eql jv .nilIface) k
 may:∀(h:AH) (L M:List HP) (w l:Int) (Q:Value->AH->Prop),L.Perm (A::M)->Hs G h L->(∀h',Hs G h' L->Q (.tuple ⟨[I (j w l).1,.bool (j w l).2]⟩) h')->Cl Pr K 234 [jv,I w,I l] h Q
section
variable {C:bM} {hb mb b o cap p l:Nat} {H:kP} {n:aK} {r:Row} {Q:Value->AH->Prop} {j:Int->Int->Int×Bool} {jv:Value}
def Lo (G:Bg) (hb p mb b o cap l:Nat) (C:bM) (H:kP) (n:aK) (r:Row):List HP:=
 [eC b (o+l*25) r,aF p 0 n.enc,aF hb 0 (lF mb C b o cap),fJ G C.lines mb C (fun i=>(H i).2),hole G 25 230 (some ⟨b,o,none⟩) cap C.lines b o,yX b o C.lines H l]
theorem xn (q:l<C.lines) (g:n.kind≠3/\n.kind≠1/\n.kind≠2) (a:Hs G h (Lo G hb p mb b o cap l C H n r++L)) {t:Value}
  (c:∀v k,Hs G k (eF v (r.begun l (H l).2 n (fun w=>j w l)).2::fP G hb C (bY H l (r.begun l (H l).2 n (fun w=>j w l)).1)::L)->Q (.tuple ⟨[v,I 0]⟩) k):Dd 152 13 [] Q [(pt hb 0 0),(I l),jv,(pt b (o+l*25) 0),(pt p 0 0),t] h:=by
 unfold Row.begun at c
 rw[aN9 g.1,aab] at c
 simp only[Lo,List.cons_append,List.nil_append] at a
 refine bW (vR a fun a=>aZ (aQ (fun f=>?_) (fun f=>bW (aU a ?_))))
 .rw[aNa f] at c;exact c _ _ (pP ((eD hb C H l r (H l).2 _ mb b o cap q eJ.symm a).to))
 .rw[aN9 f] at c;intro s h a;refine aN a (by decide) (l:=n.enc) rfl rfl ?_;obtain⟨wa,wc,a⟩:=dK (a.front (eC b (o+l*25) r));refine aB (aA (ay a ?_));intro h a;have i:=a;refine aB (aA (ay a ?_));intro h a;refine bP cG (bP (aN i (by decide) (l:=n.enc) rfl rfl (pW (by simp[nN,aK.enc]))) ?_);have a:=dU b (o+l*25) (r.Lc n) wa wc a rfl rfl rfl;have e:(r.Lc n).jL (-1)=r.jL (-1):=rfl;refine N1 a fun v h a=>c _ _ ?_;rw[e] at a;exact(eD hb C H l ((r.Lc n).gP (r.jL (-1))) (H l).2 _ mb b o cap q eJ.symm a).to
theorem V5 (hC:C.Ok) (g:Ob G 1 gA) {A:HP} {M0:List HP} (x:Xw G A jv j) (hA:L.Perm (A::M0)) (q:l<C.lines) (s:0<=n.core/\n.core<4) (t: -1<=r.owner/\r.owner<4) (k:n.kind=1\/n.kind=2) (e:Hs G h (Lo G hb p mb b o cap l C H n r++L))
  (f:∀v u,Hs G u (eF v (r.begun l (H l).2 n (fun w=>j w l)).2::fP G hb C (bY H l (r.begun l (H l).2 n (fun w=>j w l)).1)::L)->Q (.tuple ⟨[v,I 0]⟩) u):Dd 152 12 [] Q [(pt hb 0 0),(I l),jv,(pt p 0 0)] h:=by
 unfold Row.begun at f
 rw[aab,aNa k] at f
 simp only[Lo,List.cons_append,List.nil_append] at e
 refine bW (aA (aC e rfl (x.may _ _ _ _ _ _ ((hA.append_left (Lo G hb p mb b o cap l C H n r)).trans List.perm_middle) e fun h e=>?_)))
 simp only[Lo,List.cons_append,List.nil_append] at e
 refine aH rfl (aH rfl (bT (dT (cZ (fun i=>?_) (fun i=>?_)))))
 .rw[aNa i] at f;refine aN e (by decide) (l:=n.enc) rfl rfl ?_;have e:=eD hb C H l r (H l).2 _ mb b o cap q eJ.symm e;refine Kf hC g e q s (by simp only[jA];exact t) fun v h e=>f _ _ ?_;simp only[jA,Cg] at e;exact e.to
 .rw[aN9 (by rw[i];simp)] at f;refine aA (aC e rfl (aI (c:=(Et 9 n.core l).enc) rfl (aI (c:=(Et 9 n.core l).enc) rfl (dA e rfl rfl rfl ?_))));intro a h e;refine f _ _ ?_;have e:=B4 (n:=Et 9 n.core l) rfl e;exact(eD hb C H l r (H l).2 _ mb b o cap q eJ.symm e).to
theorem aBn (hC:C.Ok) (k:Ob G 1 gA) (q:l<C.lines) (i:0<=n.core/\n.core<4) (u:n.kind=3) (f:Hs G h (Lo G hb p mb b o cap l C H n r++L))
  (g:∀v x,Hs G x (eF v (r.begun l (H l).2 n (fun w=>j w l)).2::fP G hb C (bY H l (r.begun l (H l).2 n (fun w=>j w l)).1)::L)->Q (.tuple ⟨[v,I 0]⟩) x):Dd 152 6 [] Q [(pt hb 0 0),(I l),(pt b (o+l*25) 0),(pt p 0 0)] h:=by
 unfold Row.begun at g
 rw[aNa u] at g
 simp only[Lo,List.cons_append,List.nil_append] at f
 refine bW (aU f ?_)
 intro y h f
 obtain⟨wa,wc,f⟩:=dK (f.front (eC b (o+l*25) r))
 refine aB (aA (aC f rfl (aA (aC f rfl (aZ (aQ (fun s=>?_) (fun s=>?_)))))))
 .have f:=dU b (o+l*25) r wa wc f rfl rfl rfl;refine aA (aC f rfl (cZ (fun t=>bW (aU f ?_)) (fun t=>bW ?_)))
  .rw[aNa ⟨s,t⟩] at g;intro y h f;refine aB (aA (aC f rfl (aA (aN f (by decide) (l:=Nn (n.d0,n.d1)) rfl rfl (J9 hC k f q fun h f=>?_)))));refine aA (aC f rfl (E2 f i fun h f=>?_));refine aA (aC f rfl (aI (c:=(Et 10 n.core l).enc) rfl (aI (c:=(Et 10 n.core l).enc) rfl (dA f rfl rfl rfl ?_))));intro a h f;refine g _ _ ?_;have f:=B4 (n:=Et 10 n.core l) rfl f;exact(eD hb C H l (r.leave n.core) (n.d0,n.d1) _ mb b o cap q rfl f).to
  .rw[aN9 (by rw[t];simp)] at g;refine aA (aC f rfl (E2 f i fun h f=>?_));refine aA (aC f rfl (aI (c:=(Et 10 n.core l).enc) rfl (aI (c:=(Et 10 n.core l).enc) rfl (dA f rfl rfl rfl ?_))));intro a h f;refine g _ _ ?_;have f:=B4 (n:=Et 10 n.core l) rfl f;exact(eD hb C H l (r.leave n.core) (H l).2 _ mb b o cap q eJ.symm f).to
 .rw[aN9 (fun e=>s e.1)] at g;have f:=dU b (o+l*25) r wa wc f rfl rfl rfl;refine aA (aC f rfl (E2 f i fun h f=>?_));refine aA (aC f rfl (aI (c:=(Et 10 n.core l).enc) rfl (aI (c:=(Et 10 n.core l).enc) rfl (dA f rfl rfl rfl ?_))));intro a h f;refine g _ _ ?_;have f:=B4 (n:=Et 10 n.core l) rfl f;exact(eD hb C H l (r.leave n.core) (H l).2 _ mb b o cap q eJ.symm f).to
end
theorem vm {C:bM} (hC:C.Ok) {hb:Nat} {H:kP} {x:Int} {jv:Value} {j:Int->Int->Int×Bool} {N:Nat} {Q:Value->AH->Prop} (g:Ob G 1 gA) {A:HP} {M0:List HP} (F:Xw G A jv j) (T:yD C H N) (a:Hs G h L) [m:Has (fP G hb C) L H L'] (hA:L'.Perm (A::M0))
  (c:∀v P,Hs G P (eF v (iA C H x (fun w=>j w x)).2.1::fP G hb C (iA C H x (fun w=>j w x)).1::L')->Q (.tuple ⟨[v,I (iA C H x (fun w=>j w x)).2.2]⟩) P):Cl Pr K 152 [pt hb 0 0,I x,jv] h Q:=by
 obtain⟨mb,b,o,cap,a⟩:=oA (m.of a)
 unfold iA at c
 refine cW (cS (bX (bW (vB a (bT (dT (aQ (fun u=>bW (F.ne _ (bX (bW ?_)))) (fun u=>?_))))))))
 rotate_left
 .rw[aN9 u] at c;exact c _ _ (pP (Bc C H hb mb b o cap a)).to
 rw[aNa u] at c
 obtain⟨l,rfl⟩:=Int.eq_ofNat_of_zero_le u.1
 have k:l<C.lines:=by have:=u.2;omega
 simp only[Int.toNat_natCast] at c
 have a:=Ib (H:=H) (b:=b) (o:=o) k a
 obtain⟨wa,wc,a⟩:=dK a
 have same:∀h,Hs G h (eC b (o+l*25) (H l).1::yX b o C.lines H l::aF hb 0 (lF mb C b o cap)::fJ G C.lines mb C (fun i=>(H i).2)::hole G 25 230 (some ⟨b,o,none⟩) cap C.lines b o::L')->Hs G h (eF (.slice none 0 0) []::fP G hb C (bY H l (H l))::L'):=fun h a=>
  pP ((eD hb C H l (H l).1 (H l).2 _ mb b o cap k eJ.symm a).to)
 unfold sV.begin at c
 refine aB (aA (aC a rfl (dF k (aB (aA (aC a rfl (cZ (fun D=>?_) (fun D=>bW ?_))))))))
 .rw[aNa D] at c;exact c _ _ (same _ (dU b (o+l*25) (H l).1 wa wc a rfl rfl rfl).to)
 rw[aN9 (by rw[D];simp)] at c
 refine aB (aA (aC a rfl (bH (aZ (aQ (fun E=>?_) (fun E=>bW ?_))))))
 .have q:(H l).1.waits=[]:=List.eq_nil_of_length_eq_zero (by omega);rw[q] at c;exact c _ _ (same _ (dU b (o+l*25) (H l).1 wa wc a rfl rfl rfl).to)
 .cases q:(H l).1.waits with
  |nil=>rw[q] at E;simp at E
  |cons n w=>
   rw[q] at c
   dsimp only at c
   have s:=(T l k).1
   have t:=s.waits n (by rw[q];exact List.mem_cons_self)
   have f:=a.front (cU 9 211 wa wc ((H l).1.waits.length,eA (H l).1.waits))
   rw[q] at f
   simp only[List.length_cons,Jd] at f
   obtain⟨V,W,rfl,U,z,_⟩:=f.oJ (by omega)
   refine aB (aA (aC a rfl ?_))
   rw[q]
   refine dF (i:=0) (by simp) (Ku z (by decide) (l:=n.enc) (by simp[aK.enc]) rfl ?_)
   clear z
   refine bG f ?_
   intro p h a
   refine ax a ?_
   intro h a
   refine aB (aA (aC a rfl ?_))
   rw[q]
   refine yg (e:=211) a ?_
   intro R S a
   refine aB (aA (ay a ?_))
   intro h a
   have a:=dU b (o+l*25) ((H l).1.next w) R S a rfl rfl (by simp[Row.next,aK.enc])
   have a:Hs G h (Lo G hb p mb b o cap l C H n ((H l).1.next w)++L'):=by
    simp only[Lo,List.cons_append,List.nil_append];exact a.to
   have y:=a
   simp only[Lo,List.cons_append,List.nil_append] at y
   refine aA (aC y rfl (aZ (aQ (fun J=>aBn (j:=j) hC g k t J a c) (fun J=>bW (aZ (aQ (fun B=>bW (bE B (V5 (r:=(H l).1.next w) hC g F hA k t s.owner (.inl B) a c))) (fun B=>bW (aZ (aQ (fun O=>V5 (r:=(H l).1.next w) hC g F hA k t s.owner (.inr O) a c) (fun O=>xn k ⟨J,B,O⟩ a c))))))))))
end
end Go.Proofs.YtcjlkjeeifemhaaGreatDoor.H
end
namespace Go.Proofs.YtcjlkjeeifemhaaGreatDoor
open Go Go.Ab Go.Hm Go.At Go.Mc
section
theorem aF8 {a b c d:Bool} {k:Value->Prop} (f:k (.bool (!(a||b||c||d)))) {c0:Bool} (hc:c0=true:=by kernel_rfl):Nj c0 [1,1,1,1] .eql (.agg ⟨[.bool a,.bool b,.bool c,.bool d]⟩) (.agg ⟨[.bool false,.bool false,.bool false,.bool false]⟩) k:=by
 have e:J1 [1,1,1,1] .eql (.agg ⟨[.bool a,.bool b,.bool c,.bool d]⟩) (.agg ⟨[.bool false,.bool false,.bool false,.bool false]⟩)=some (.bool (!(a||b||c||d))):=by cases a<;>cases b<;>cases c<;>cases d<;>kernel_rfl
 exact⟨hc,_,e,f⟩
set_option maxRecDepth 100000
attribute [local irreducible] aY Br oM tU tZ Bj kK tW jJ Oy gO lN oP nQ nD iK vN tD I5 Q2 Nf M1 Sb Nl J1 Nj Pc kA mM qI iH copyV gW uU S4 S7 Fa jD Le O1 Ta lS oS wJ yB Cl yG Rz qY qM iP eP cI bS
variable {G:Bg} {h:AH} {L L' M:List HP} {Q:Value->AH->Prop} {C:bM} {m:Mon} {p:Nat}
theorem Qx {g:Int} (c:hJ C m) (hC:C.Ok) (a:m.has g):∃n:Nat,g=n/\n<m.fY.length/\n<16:=by
 have:=c.len;have:=hC.2.1;unfold Mon.has at a;exact⟨g.toNat,by omega,by omega,by omega⟩
theorem j6 {r:Mc.iU} {i:Nat} (a:i<4):dH r.enc (0+8+i*1) [.bool false]=(r.heard i).enc:=by
 have:i=0\/i=1\/i=2\/i=3:=by omega
 rcases this with rfl|rfl|rfl|rfl<;>rfl
theorem Pf {f:Nat->Option Mc.iU} {g:Nat} {r:Mc.iU}:I6 (fH f) g (some (.agg ⟨r.enc⟩))=fH (bY f g (some r)):=Gr (x:=some r)
theorem Nx {g core:Int} (hC:C.Ok) (E:hJ C m) (a:Hs G h L) [F:Has (fD C p) L m L'] (f:∀x,Hs G x (fD C p (m.dropped C.aG g core).1::L')->Q (.tuple ⟨[.bool (m.dropped C.aG g core).2.1,I (m.dropped C.aG g core).2.2]⟩) x):Cl Pr K 223 [pt p 0 0,I g,I core] h Q:=by
 have N:=hC.1;unfold Mon.dropped at f;obtain⟨t,b,a⟩:=kB (F.of a);refine cW (cS (bX (bW (aB (aA (am p a rfl (Az (m:=m) a fun h a=>?_)))))));by_cases v:m.has g;rotate_left;rw[aN9 v];rw[aNa v] at f;exact aH rfl (aH rfl (bG a fun q h a=>ax (b:=q) a fun h a=>aT (aad (f _ (dJ (t:=t) (b:=b) a.to)))));rw[aNa v];rw[aN9 (by simpa using v)] at f;obtain⟨n,rfl,O,u⟩:=Qx E hC v;refine aH rfl (aH rfl (bG a fun q h a=>ax (b:=q) a fun h a=>aT (aaa (bW (aB (aA (am p a rfl (O7 (m:=m) a (bG a fun pr h a=>ax (b:=pr) a fun h a=>aA (am pr a rfl (aT (aQ (fun s=>?_) (fun s=>?_)))))))))))));cases hr:m.run (n:Int) with
 |none=>rw[hr] at f;exact f _ (dJ (t:=t) (b:=b) a.to)
 |some r=>
  rw[hr] at s f;simp only[Option.getD_some] at s;dsimp only at f;rw[aNa s] at f;exact f _ (dJ (t:=t) (b:=b) a.to)
 cases hr:m.run (n:Int) with
 |none=>rw[hr] at s;exact absurd (show(0:Int)≠1 by omega) s
 |some r=>
 rw[hr] at s a f;simp only[Option.getD_some] at s a;dsimp only at f;rw[aN9 s] at f;by_cases y:0<=core/\core<C.aG;rotate_left;rw[aNa (Or.inl y)] at f;refine bW (aM (aQ (fun A=>f _ (dJ (t:=t) (b:=b) a.to)) fun A=>aB (aA (am p a rfl (dE (aad (f _ (dJ (t:=t) (b:=b) a.to))))))));obtain⟨i,rfl⟩:=Int.eq_ofNat_of_zero_le y.1;have B:i<4:=by omega
 have w:r.enc[0+8+i*1]?=some (.bool (r.waits i)):=by
  have:i=0\/i=1\/i=2\/i=3:=by omega
  rcases this with rfl|rfl|rfl|rfl<;>rfl
 refine bW (aM (aaa (aB (aA (am p a rfl (dE (aaa (aA (fS (by omega) (am pr a w (bT (dT ?_))))))))))));rw[Int.toNat_natCast] at f;cases hw:r.waits i with
 |false=>
  rw[aNa (Or.inr hw)] at f;exact bX (f _ (dJ (t:=t) (b:=b) a.to))
 |true=>
 rw[aN9 (by rw[hw];simp;omega)] at f;have D:r.enc.length=12:=rfl;refine eN (bW (aA (fS (by omega) (bC (b:=pr) (o:=0) a rfl (by rw[D];exact Nat.ble_eq_true_of_le (by simp;omega)) rfl rfl fun h a=>?_))));rw[j6 B] at a;refine aA (gD (b:=pr) (o:=0) a (by decide) (l:=[.bool ((r.heard i).waits 0),.bool ((r.heard i).waits 1),.bool ((r.heard i).waits 2),.bool ((r.heard i).waits 3)]) rfl rfl (aI (c:=[.bool false,.bool false,.bool false,.bool false]) rfl (aF8 (cZ (fun k=>?_) (fun k=>?_)))));have e:({(r.heard i) with phase:=2}:Mc.iU)=(r.heard i).mH:=by unfold iU.mH;rw[show(r.heard i).none=true from k];rfl
 refine bW (aA (ay (b:=pr) (o:=0) a fun h a=>aU a fun J h a=>?_));have z:dH (r.heard i).enc (0+7) [I 2]=({(r.heard i) with phase:=2}:Mc.iU).enc:=rfl;rw[z,e] at a;refine aB (aA (am p a rfl (an pr a (l:=(r.heard i).mH.enc) rfl rfl (Sl a u fun h a=>?_))));rw[Pf] at a;have a:Hs G h (fD C p (m.dX n (some (r.heard i).mH))::L'):=(dJ (m:=m.dX n (some (r.heard i).mH)) (a.cK (aF p 0 [pt t 0 0,I C.aG,fN b]) (gL t m.fY) (iD b (fH (bY m.runs n (some (r.heard i).mH)))))).to;have:=f h a;rw[k];rw[show(r.heard i).none=true from k] at this;exact this;have e:r.heard i=(r.heard i).mH:=by unfold iU.mH;rw[show(r.heard i).none=false from k];rfl
 rw[e] at a;refine bW (aU a fun J h a=>aB (aA (am p a rfl (an pr a (l:=(r.heard i).mH.enc) rfl rfl (Sl a u fun h a=>?_)))));rw[Pf] at a;have a:Hs G h (fD C p (m.dX n (some (r.heard i).mH))::L'):=(dJ (m:=m.dX n (some (r.heard i).mH)) (a.cK (aF p 0 [pt t 0 0,I C.aG,fN b]) (gL t m.fY) (iD b (fH (bY m.runs n (some (r.heard i).mH)))))).to;have:=f h a;rw[k];rw[show(r.heard i).none=false from k] at this;exact this
theorem tu {n:Nat} {r:Mc.iU} (h:m.run (n:Int)=some r):m.runs n=some r:=by
 unfold Mon.run at h;rw[aae] at h;exact h
theorem Zs {g:Int} (hC:C.Ok) (B:hJ C m) (a:Hs G h L) [F:Has (fD C p) L m L'] (i:∀v,Hs G v (fD C p (m.over g).1::L')->Q (.tuple ⟨[.agg ⟨mN ((m.over g).2.1.getD Bo)⟩,I (m.over g).2.2]⟩) v):Cl Pr K 154 [pt p 0 0,I g] h Q:=by
 unfold Mon.over at i;refine cW (bG (cs:=mN Bo) (F.of a) fun u h a=>?_);obtain⟨t,b,a⟩:=kB (a.front (fD C p m));refine cS (bX (bW (aB (aA (am p a rfl (Az (m:=m) a fun h a=>?_))))));have bad:∀{h:AH} {M:List HP} {e:Int},[Sub M L']->Hs G h (aF u 0 (mN Bo)::aF p 0 [pt t 0 0,I C.aG,fN b]::gL t m.fY::iD b (fH m.runs)::M)->(∀v,Hs G v (fD C p m::L')->Q (.tuple ⟨[.agg ⟨mN Bo⟩,I e]⟩) v)->
   aY (oD [(I 0),(I 0),(I 0),(I 0),(I 0),(I 0),(.bool false)] []) fun z=>aY (tZ h 7 (pt u 0 0) (.agg ⟨z⟩)) fun w=>aY (tU w 7 (pt u 0 0)) fun v12=>Q (.tuple ⟨[v12,I e]⟩) w:=by
  intro h M e _ a E
  exact aI (c:=mN Bo) rfl (ax (b:=u) a fun h a=>an u a (l:=mN Bo) rfl rfl (E _ (dJ (t:=t) (b:=b) a.to)))
 by_cases y:m.has g;rotate_left;rw[aN9 y];rw[aNa y] at i;exact aH rfl (aH rfl (bG a fun q h a=>ax (b:=q) a fun h a=>aT (aad (bad (M:=L') a.to i))));rw[aNa y];rw[aN9 (by simpa using y)] at i;obtain⟨n,rfl,O,D⟩:=Qx B hC y;refine aH rfl (aH rfl (bG a fun q h a=>ax (b:=q) a fun h a=>aT (aaa (bW (aB (aA (am p a rfl (O7 (m:=m) a (bG a fun pr h a=>ax (b:=pr) a fun h a=>aA (am pr a rfl (aT (aQ (fun s=>?_) (fun s=>?_)))))))))))));cases hr:m.run (n:Int) with
 |none=>rw[hr] at i;exact bad (M:=L') a.to i
 |some r=>
  rw[hr] at s i;simp only[Option.getD_some] at s;dsimp only at i;rw[aNa s] at i;exact bad (M:=L') a.to i
 cases hr:m.run (n:Int) with
 |none=>rw[hr] at s;exact absurd (show(0:Int)≠2 by omega) s
 |some r=>
 rw[hr] at s a i;simp only[Option.getD_some] at s a;dsimp only at i;rw[aN9 s] at i;obtain⟨P,J,R,S,N⟩:=B.run n r (tu hr);refine bW (aU a fun T h a=>aB (aA (am p a rfl (aA (aA (aA (am pr a rfl (aA (aA (am pr a rfl (aI (c:=(⟨r.then',false⟩:kR).enc) rfl (Gm (x:=⟨r.then',false⟩) a fun h a=>?_))))))))))));have k:(0<=r.cE/\r.cE<m.fY.length)/\(0<=r.then'/\r.then'<=4):=⟨by rw[J];omega,N⟩;rw[aNa k] at a;rw[aNa k];refine aT (aaa (bW (aB (aA (am p a rfl (aFz a fun h a=>aA (an pr a (l:=mN r) rfl rfl (ax (b:=u) a fun h a=>an u a (l:=mN r) rfl rfl (i _ ?_)))))))));have A:=Gr (f:=m.runs) (g:=n) (x:=none);rw[Option.map_none] at A;rw[A] at a;have a:Hs G h (fD C p ((m.oh r.cE.toNat ⟨r.then',false⟩).dX n none)::L'):=(dJ (m:=(m.oh r.cE.toNat ⟨r.then',false⟩).dX n none) (a.cK (aF p 0 [pt t 0 0,I C.aG,fN b]) (gL t (m.fY.set r.cE.toNat ⟨r.then',false⟩)) (iD b (fH (bY m.runs n none))))).to;exact a
end
end Go.Proofs.YtcjlkjeeifemhaaGreatDoor
section
open Go Go.Ab
attribute [local irreducible] aY Br oM tU tZ Bj kK tW jJ Oy gO lN oP nQ nD iK vN tD I5 Q2 Nf M1 Sb Nl J1 Nj Pc kA mM qI iH copyV gW uU S4 S7 Fa jD Le O1 Ta lS oS wJ yB Cl yG Rz qY qM iP eP cI bS
namespace Go.Proofs.YtcjlkjeeifemhaaGreatDoor
open Go Go.Ab Go.Hm Go.At Go.Mc
section
def tA (m:Mon) (done:List Int) (k:Nat):Option Value:=if(k:Int)∈done then fH m.runs k else none
theorem mw {m:Mon}:tA m []=fun _=>none:=by funext k;unfold tA;simp
theorem ju {m:Mon} {done:List Int} {k:Nat} {r:Mc.iU} (a:m.runs k=some r):I6 (tA m done) k (some (.agg ⟨r.enc⟩))=tA m (done++[(k:Int)]):=by
 funext j;unfold I6 tA;by_cases e:j=k;subst e;simp[fH,a]
 .rw[aN9 e];have:((j:Int)∈done++[(k:Int)])↔(j:Int)∈done:=by simp;omega
  simp only[this]
theorem iu {m:Mon} (a:∀g r,m.runs g=some r->g<16):tA m (m.running.map fun k:Nat=>(k:Int))=fH m.runs:=by
 funext k;unfold tA;split;rfl;rename_i c;cases hr:m.runs k with
 |none=>unfold fH;rw[hr];rfl
 |some r=>exact absurd (List.mem_map.2 ⟨k,qP.2 ⟨a k r hr,by rw[hr];rfl⟩,rfl⟩) c
set_option maxRecDepth 100000
variable {G:Bg} {h:AH} {L L' M:List HP} {Q:Value->AH->Prop} {C:bM} {m:Mon} {p:Nat}
abbrev aFo (C:bM) (m:Mon) (p p2 a q t b:Nat) (e:Nat->Value) (d l:Nat) (done:List Int):HP:=
 sp [kE Pr 198 (kI 122) 39 e d l (.ready,none),sp [aF p2 0 [pt p 0 0],aF a 0 [pt q 0 0]],fD C p m,sp [aF q 0 [pt t 0 0,I C.aG,fN b],gL t m.fY,iD b (tA m done)]]
theorem Mw (hC:C.Ok) (P:hJ C m) (s:Hs G h L) [mm:Has (fD C p) L m L'] (hk:∀q N,Hs G N (fD C q m::fD C p m::L')->Q (pt q 0 0) N):Cl Pr K 198 [pt p 0 0] h Q:=by
 have O:=P.len;have α:=hC.2.1;refine cW (dB (mm.of s) fun u h s=>?_);refine am u s rfl (cS (bX ?_));obtain⟨t0,B,s⟩:=kB (s.front (fD C p m));refine bW (aU s fun A h0 w=>am u w rfl (aB (aA (am p w rfl (aj (es:=m.fY) (by omega) w fun t h s=>?_)))));refine am u s rfl (aB (aA (am p s rfl (am u s rfl (aB (aA (am p s rfl (aGc (b:=B) (f:=fH m.runs) s fun _=>aJf (Y7 (r:=A) (i:=14) (n:=19) (D:=[]) s rfl rfl fun b h s=>?_)))))))));refine aI (c:=[pt t 0 0,I C.aG,fN b]) rfl (zK (r:=A) (i:=16) (n:=19) (D:=[14]) s rfl rfl fun q h s=>kM (r:=A) (i:=17) (n:=19) (D:=[16,14]) s rfl rfl fun y h s=>ax (b:=y) s fun h s=>?_);refine bP (am u w rfl cG) (bP (aB cG) (bP (aA cG) (bP (am p w rfl eG) (bP (am u w rfl cG) (bP (aB cG) (bP (aA cG) (bP (am p w rfl (by simp[nN,fN])) ?_)))))));have s:=dJ (s.cK (aF p 0 [pt t0 0 0,I C.aG,fN B]) (gL t0 m.fY) (iD B (fH m.runs)));refine am u s rfl (Cu (C:=C) (m:=m) s fun V T U h s=>jM s fun d h s=>?_);intro e he;refine lY s fun l h s=>rL rfl ?_;rw[<-mw (m:=m)] at s;have s:Hs G h (H.Nv 3 V T U (m.running.map fun k:Nat=>(k:Int))::aFo C m p u y q t b e d l []::mk d ()::L'):=by
  have s:=(s.cK (aF q 0 [pt t 0 0,I C.aG,fN b]) (gL t m.fY) (iD b (tA m []))).Gn;have s:=(s.cF (aF u 0 [pt p 0 0]) (aF y 0 [pt q 0 0])).A9;have s:=(s.mB (kE Pr 198 (kI 122) 39 e d l (.ready,none)) (sp [aF u 0 [pt p 0 0],aF y 0 [pt q 0 0]]) (fD C p m) (sp [aF q 0 [pt t 0 0,I C.aG,fN b],gL t m.fY,iD b (tA m [])])).M3;exact s.to
 refine(H.Ez (e:=3) (p:=V) (a:=T) (c:=U) (xs:=m.running.map fun k:Nat=>(k:Int)) (by have:=List.length_filter_le (fun g=>(m.runs g).isSome) (List.range 16);simp[Mon.running] at this ⊢;omega)).fold
  (X:=fun done=>aFo C m p u y q t b e d l done) (Z:=fun _ _=>uH False) s ?_ ?_ ?_
 .intro done x h M R s;have s:=s.un4;obtain⟨k,z,rfl⟩:∃k∈m.running,(k:Int)=x:=by
   obtain⟨ys,J⟩:=R;have:x∈m.running.map fun k:Nat=>(k:Int):=by rw[<-J];simp
   obtain⟨k,W,Y⟩:=List.mem_map.1 this;exact⟨k,W,Y⟩
  obtain⟨r,S⟩:=Option.isSome_iff_exists.1 (qP.1 z).2;have F:m.run (k:Int)=some r:=by unfold Mon.run;rw[aae];exact S
  have s:=(s.front (sp [aF u 0 [pt p 0 0],aF y 0 [pt q 0 0]])).Bq;have s:=(s.front (sp [aF q 0 [pt t 0 0,I C.aG,fN b],gL t m.fY,iD b (tA m done)])).wP;refine rW (rK s) he (gS s fun h s=>aU s fun A h s=>?_);obtain⟨t2,E,s⟩:=kB (s.front (fD C p m));refine am y s rfl (aB (aA (am q s rfl (am u s rfl (aB (aA (am p s rfl (O7 (b:=E) (m:=m) s ?_))))))));rw[F];refine Sl (b:=b) (f:=tA m done) s (qP.1 z).1 fun h s=>gV s fun h s=> .inl ⟨rfl,?_⟩;rw[show(some r).getD Bo=r from rfl,ju S] at s;have s:=dJ (s.cK (aF p 0 [pt t2 0 0,I C.aG,fN E]) (gL t2 m.fY) (iD E (fH m.runs)));have s:=(s.cK (aF q 0 [pt t 0 0,I C.aG,fN b]) (gL t m.fY) (iD b (tA m (done++[(k:Int)])))).Gn;have s:=(s.cF (aF u 0 [pt p 0 0]) (aF y 0 [pt q 0 0])).A9;have s:=(s.mB (kE Pr 198 (kI 122) 39 e d l (.ready,none)) (sp [aF u 0 [pt p 0 0],aF y 0 [pt q 0 0]]) (fD C p m) (sp [aF q 0 [pt t 0 0,I C.aG,fN b],gL t m.fY,iD b (tA m (done++[(k:Int)]))])).M3;exact s.to
 intro v h s;have s:=(s.front (aFo C m p u y q t b e d l (m.running.map fun k:Nat=>(k:Int)))).un4;have s:=(s.front (sp [aF u 0 [pt p 0 0],aF y 0 [pt q 0 0]])).Bq;have s:=(s.front (sp [aF q 0 [pt t 0 0,I C.aG,fN b],gL t m.fY,iD b (tA m (m.running.map fun k:Nat=>(k:Int)))])).wP;rw[iu (P.aI5 hC)] at s;have s:=dJ (s.cK (aF q 0 [pt t 0 0,I C.aG,fN b]) (gL t m.fY) (iD b (fH m.runs)));exact mC s fun h s=>lT (am y s rfl (kN s fun h s=>iF (hk _ _ s.to)))
 .intro done x v h R s;obtain⟨hd,_⟩:=(s.front (uH False)).jr;exact hd.elim
end
end Go.Proofs.YtcjlkjeeifemhaaGreatDoor
end
namespace Go.Proofs.YtcjlkjeeifemhaaGreatDoor
open Go Go.Ab Go.Hm Go.At Go.Mc
section
theorem zn {t:TypeId} {v:Value} {k:Value->Prop} (a:k (.bool false)):aY (Nl true .eql (.iface t v) .nilIface) k:=⟨_,rfl,a⟩
set_option maxRecDepth 100000
attribute [local irreducible] aY Br oM tU tZ Bj kK tW jJ Oy gO lN oP nQ nD iK vN tD I5 Q2 Nf M1 Sb Nl J1 Nj Pc kA mM qI iH copyV gW uU S4 S7 Fa jD Le O1 Ta lS oS wJ yB Cl yG Rz qY qM iP eP cI bS
variable {G:Bg} {h:AH} {L L' M:List HP} {Q:Value->AH->Prop} {C:bM} {m:Mon} {p:Nat}
theorem R6 {ov:Value} {os:List Int} {k:Value->Prop} (c:A.Di G ov os) (a:k (I os.length)):aY (iK ov) k:=A.uQ c (by rw[A.tT];exact a)
theorem mU {α:Type} {l:List α} {i:Nat} (h:i<l.length):∃x,l[i]?=some x/\l.drop i=x::l.drop (i+1):=⟨l[i],by simp,List.drop_eq_getElem_cons h⟩
def sW (os:List Int):List kR:=os.map fun o=>⟨o,false⟩
theorem Q3 {ov:Value} {os:List Int} (q:A.Di G ov os) (w:os.length<=16) (s:∀o∈os,0<=o/\o<=4) {t0:Value} (k:∀c,Hs G c L->Dd 47 4 [] Q [t0,ov] c):
  ∀(f i:Nat) (h:AH),i+f=os.length->Hs G h L->Dd 47 2 [] Q [t0,ov,ov,(I os.length),(I i)] h:=by
 intro f
 induction f with
 |zero=>intro i h g a;exact bW (aM (aaa (k _ a)))
 |succ f u=>
  intro i h g a
  obtain⟨x,e,v⟩:=mU (l:=os) (i:=i) (by omega)
  have t:=s x (List.mem_of_getElem? e)
  have a:=A.sB q a
  exact bW (aM (aad (bW (uK a (x:=[I x]) (by simp[A.zH,e]) rfl (aM (aaa (gZ (aaa (bW (aac (u (i+1) h (by omega) a.tail)))))))))))
theorem o8 {os:List Int} {i:Nat} {x:Int} (a:os[i]?=some x):(sW (os.take i)++List.replicate (os.length - i) kG).set i ⟨x,false⟩=sW (os.take (i+1))++List.replicate (os.length - (i+1)) kG:=by
 obtain⟨f,e⟩:=List.getElem?_eq_some_iff.1 a;have c:(sW (os.take i)).length=i:=by simp[sW];omega
 rw[List.set_append_right _ _ (by omega),c,Nat.sub_self,show os.length - i=(os.length - (i+1))+1 by omega,List.replicate_succ,List.set_cons_zero,List.take_add_one,a];simp[sW]
theorem o6 {ov:Value} {os:List Int} (hC:C.Ok) (k:A.Di G ov os) (P:os.length=C.bU.toNat) (z:∀o∈os,0<=o/\o<=4) (a:Hs G h L) (F:∀q w,Hs G w (fD C q ⟨sW os,fun _=>none⟩::L)->Q (.tuple ⟨[pt q 0 0,I 0]⟩) w):Cl Pr K 47 [I C.aG,ov] h Q:=by
 have N:=hC.1;have D:=hC.2.1;refine cW (aM (aaa (gZ (aaa (R6 k (aM (aaa (R6 k (gZ (aaa (bW (R6 k ?_))))))))))));refine Q3 k (by omega) z ?_ os.length 0 h (by omega) a;intro h a;refine bW (R6 k (jo (by omega) a fun t h a=>aH rfl (aH rfl (aT (aaa (bW (um a fun b h a=>?_)))))));refine aI (c:=[pt t 0 0,I C.aG,fN b]) rfl (dB a fun q h a=>R6 k ?_);have loop:∀(f i:Nat) (h:AH),i+f=os.length->Hs G h (gL t (sW (os.take i)++List.replicate (os.length - i) kG)::aF q 0 [pt t 0 0,I C.aG,fN b]::iD b (fun _=>none)::L)->Dd 47 7 [] Q [(pt q 0 0),ov,(I os.length),(I i)] h:=by
  intro f;induction f with
  |zero=>
   intro i h E a;refine bW (aM (aaa (F _ _ ?_)));have s:i=os.length:=by omega
   subst s;rw[List.take_length,Nat.sub_self,List.replicate_zero,List.append_nil] at a;have a:Hs G h (aF q 0 [pt t 0 0,I C.aG,fN b]::gL t (sW os)::iD b (fun _=>none)::L):=a.to;exact dJ (m:=⟨sW os,fun _=>none⟩) a
  |succ f J=>
   intro i h E a;obtain⟨x,u,O⟩:=mU (l:=os) (i:=i) (by omega);have v:=z x (List.mem_of_getElem? u);have a:=A.sB k a;refine bW (aM (aad (bW (uK a (x:=[I x]) (by simp[A.zH,u]) rfl (aB (aA (am q a rfl (aI (c:=(⟨x,false⟩:kR).enc) rfl (Gm (x:=⟨x,false⟩) a.tail fun h a=>?_)))))))));have y:(sW (os.take i)++List.replicate (os.length - i) kG).length=os.length:=by simp[sW];omega
   have g:(0<=(i:Int)/\(i:Int)<(sW (os.take i)++List.replicate (os.length - i) kG).length)/\(0<=(⟨x,false⟩:kR).owner/\(⟨x,false⟩:kR).owner<=4):=⟨by omega,v⟩;rw[aNa g] at a;rw[aNa g];rw[Int.toNat_natCast,o8 u] at a;exact aT (aaa (bW (aac (J (i+1) h (by omega) a))))
 have e:(os.length:Int).toNat=os.length:=Int.toNat_natCast _;refine loop os.length 0 h (by omega) ?_;rw[e] at a;have B:List.replicate os.length kG=sW (os.take 0)++List.replicate (os.length - 0) kG:=rfl;rw[B] at a;exact a.to
theorem Hl (hC:C.Ok) {x:Int} (k:Ob G 1 gA) (a:Hs G h L)
  (e:∀f,Hs G f L->Q (if C.has x then .tuple ⟨[I (x/2),I 0]⟩ else .tuple ⟨[I 0,I 10]⟩) f):Cl Pr K 182 [.agg ⟨C.enc⟩,I x] h Q:=by
 have hb:=(bM.gI hC).2.2
 have c:C.has x↔0<=x/\x<C.lines:=Iff.rfl
 refine cW (dB a fun p h a=>aM (aQ (fun g=>?_) (fun g=>?_)))
 .rw[aN9 (by rw[c];omega)] at e;exact e _ a.tail
 refine aN a (by decide) (l:=C.enc) rfl rfl (qB hC k a fun h a=>dE (aQ (fun i=>?_) (fun i=>?_)))
 .rw[aN9 (by rw[c];omega)] at e;exact e _ a.tail
 .rw[aNa (by rw[c];omega)] at e;obtain⟨n,rfl⟩:=Int.eq_ofNat_of_zero_le (show 0<=x by omega);exact Ea (by omega) (by omega) (by omega) (e _ a.tail)
def Ji (C:bM) (m:Mon) (world line:Int):Int×Bool:=if C.has line then((m.Bp (line/2)).owner,!(m.Bp (line/2)).locked&&K1 world (m.Bp (line/2)).owner) else(0,false)
theorem Tc {w x:Int} (hC:C.Ok) (z:hJ C m) (y:Ob G 1 gA) (a:Hs G h L) [A:Has (fD C p) L m L'] (c:∀i,Hs G i (fD C p m::L')->Q (.tuple ⟨[I (Ji C m w x).1,.bool (Ji C m w x).2]⟩) i):Cl Pr K 417 [.agg ⟨C.enc++[pt p 0 0]⟩,I w,I x] h Q:=by
 have k:=z.len;have s:=hC.2.1;have hb:=bM.gI hC;unfold Ji at c;refine cW (dB (cs:=C.enc++[pt p 0 0]) (A.of a) fun q h a=>aA (gD (b:=q) (o:=0) a (by decide) (l:=C.enc) rfl rfl (Hl hC y a fun h a=>?_)));by_cases f:C.has x;rotate_left;rw[aN9 f];rw[aN9 f] at c;exact aH rfl (aH rfl (aT (aad (c _ a.to))));rw[aNa f];rw[aNa f] at c;have g:=f;unfold bM.has at g;have v:m.has (x/2):=by unfold Mon.has;omega
 obtain⟨t,b,a⟩:=kB (a.front (fD C p m));refine aH rfl (aH rfl (aT (aaa (bW (aA (am q a rfl (aB (aA (am p a rfl (Az (m:=m) a fun h a=>?_))))))))));rw[aNa v];refine aH rfl (aH rfl (bG a fun u h a=>ax (b:=u) a fun h a=>aT (aaa (aU a fun B h a=>aA (am u a rfl (aA (am u a rfl (bT (dT ?_)))))))));have e:=dJ (a.cK (aF p 0 [pt t 0 0,I C.aG,fN b]) (gL t m.fY) (iD b (fH m.runs)));cases hk2:(m.Bp (x/2)).locked with
 |true=>
  rw[hk2] at c;exact eN (bP (aA cG) (bP (am u a rfl eG) (c _ e.to)))
 |false=>
  rw[hk2] at c;exact bX (aA (am u a rfl (dw (bP (aA cG) (bP (am u a rfl eG) (c _ e.to))))))
theorem Ru (hC:C.Ok) (i:hJ C m) (f:Ob G 1 gA):H.Xw G (fD C p m) (.iface 343 (.agg ⟨C.enc++[pt p 0 0]⟩)) (Ji C m) where
 ne:=fun k a=>zn a
 may:=by
  intro h L M w l Q e c a;refine aH8 (g:=417) rfl (Tc (L':=M) (m:=m) hC i f (c.perm e) fun h c=>⟨rfl,a _ (c.perm e.symm)⟩)
end
end Go.Proofs.YtcjlkjeeifemhaaGreatDoor
namespace Go.Proofs.YtcjlkjeeifemhaaGreatDoor.C
open Go Go.Ab Go.Hm Go.Ct
section
theorem nP {g n a:Nat} {i:Int} {k:Value->Prop} (c:0<=i) (e:i<n) (f:k (pt g (i.toNat*a) 0)):aY (mM n a (.pointer (some ⟨g,0,none⟩)) (I i)) k:=
 iI (b:=g) (o:=0) (j:=0) c e (by simpa [pt] using f)
theorem pH {s:Int} (h:0<=s/\s<5):iW[s.toNat*8+1]?=some (.bool (Ua s))/\iW[s.toNat*8+2]?=some (.bool (Ad s))/\iW[s.toNat*8+3]?=some (.bool (lZ s))/\iW[s.toNat*8+4]?=some (.bool (Fh s))
  /\iW[s.toNat*8+5]?=some (I (if Ad s then 4 else 0))/\iW[s.toNat*8+6]?=some (I (R5 s))/\iW[s.toNat*8+7]?=some (I 0):=by
 have:s=0\/s=1\/s=2\/s=3\/s=4:=by omega
 rcases this with rfl|rfl|rfl|rfl|rfl<;>exact⟨rfl,rfl,rfl,rfl,rfl,rfl,rfl⟩
set_option maxRecDepth 100000
attribute [local irreducible] aY Br oM tU tZ Bj kK tW jJ Oy gO lN oP nQ nD iK vN tD I5 Q2 Nf M1 Sb Nl J1 Nj Pc kA mM qI iH copyV gW uU S4 S7 Fa jD Le O1 Ta lS oS wJ yB Cl yG Rz qY qM iP eP cI bS
variable {G:Bg} {h:AH} {L L':List HP}
theorem yV {x:Int} {Q:Value->AH->Prop} (a:Q (.bool (isS x)) h):Cl Pr K 351 [I x] h Q:=by
 refine cW ?_;refine dE (aQ (fun c=>aM ?_) (fun c=>?_));show Q _ _;rw[show decide (x<5)=isS x from decide_eq_decide.2 (by omega)];exact a;show Q _ _;rw[show false=isS x from(decide_eq_false (by omega)).symm];exact a
theorem Sg {x:Int} (h:isS x=true):0<=x/\x<5:=of_decide_eq_true h
theorem Rv {x:Int} (h:isS x=false):Ua x=false/\Ad x=false/\lZ x=false/\Fh x=false:=by
 have:=of_decide_eq_false h;refine⟨decide_eq_false ?_,decide_eq_false ?_,decide_eq_false ?_,decide_eq_false ?_⟩<;>omega
theorem aCy {x:Int} {Q:Value->AH->Prop} (f:Ob G 5 iW) (g:Hs G h L) (e:Q (.bool (Ua x)) h):Cl Pr K 347 [I x] h Q:=by
 refine cW (yV (cZ (fun a=>?_) (fun a=>?_)));have c:=Sg a;exact nP c.1 c.2 (aA (uJ g f (o:=x.toNat*8) (j:=1) (pH c).1 e));rw[(Rv a).1] at e;exact e
theorem Ty {x:Int} {Q:Value->AH->Prop} (f:Ob G 5 iW) (g:Hs G h L) (e:Q (.bool (Ad x)) h):Cl Pr K 346 [I x] h Q:=by
 refine cW (yV (cZ (fun a=>?_) (fun a=>?_)));have c:=Sg a;exact nP c.1 c.2 (aA (uJ g f (o:=x.toNat*8) (j:=2) (pH c).2.1 e));rw[(Rv a).2.1] at e;exact e
theorem Ml {x:Int} {Q:Value->AH->Prop} (f:Ob G 5 iW) (g:Hs G h L) (e:Q (.bool (lZ x)) h):Cl Pr K 350 [I x] h Q:=by
 refine cW (yV (cZ (fun a=>?_) (fun a=>?_)));have c:=Sg a;exact nP c.1 c.2 (aA (uJ g f (o:=x.toNat*8) (j:=3) (pH c).2.2.1 e));rw[(Rv a).2.2.1] at e;exact e
theorem We {x:Int} {Q:Value->AH->Prop} (f:Ob G 5 iW) (g:Hs G h L) (e:Q (.bool (Fh x)) h):Cl Pr K 371 [I x] h Q:=by
 refine cW (yV (cZ (fun a=>?_) (fun a=>?_)));have c:=Sg a;exact nP c.1 c.2 (aA (uJ g f (o:=x.toNat*8) (j:=4) (pH c).2.2.2.1 e));rw[(Rv a).2.2.2] at e;exact e
theorem w5 {x:Int} {Q:Value->AH->Prop} (e:Ob G 5 iW) (f:Hs G h L) (c:Ad x=true) (g:Q (.tuple ⟨[I 4,I 0]⟩) h):Cl Pr K 283 [I x] h Q:=by
 have a:0<=x/\x<5:=by have:=of_decide_eq_true c;omega
 refine cW (yV ?_);rw[show isS x=true from decide_eq_true a];refine bT (bX (bW (Ty e f ?_)));rw[c];have:=(pH a).2.2.2.2.1;rw[aNa c] at this;exact bT (bX (nP a.1 a.2 (aA (uJ f e (o:=x.toNat*8) (j:=5) this g))))
theorem Pp {x to:Int} {Q:Value->AH->Prop} (c:Ob G 5 iW) (e:Hs G h L) (a:0<=x/\x<5) (k:to=0\/to=1) (g:Q (.tuple ⟨[I (mJ x to),.bool (Fh x),.bool (lZ x),I 0]⟩) h):Cl Pr K 381 [I x,I to] h Q:=by
 refine cW (yV ?_);rw[show isS x=true from decide_eq_true a];refine bT (bX ?_);have i:=(pH a).2.2.2.2.2.1;have f:=(pH a).2.2.2.2.2.2;rcases k with rfl|rfl;exact aT (aad (aT (aaa (bW (nP a.1 a.2 (aA (uJ e c (o:=x.toNat*8) (j:=7) f (aZ (aaa (We c e (Ml c e g)))))))))));exact aT (aaa (nP a.1 a.2 (aA (uJ e c (o:=x.toNat*8) (j:=7) f (aZ (bE rfl (bW (nP a.1 a.2 (aA (uJ e c (o:=x.toNat*8) (j:=6) i (We c e (Ml c e g))))))))))))
theorem O0 {x:rI} {w:Bool} {Q:Value->AH->Prop} (f:Ob G 5 iW) (a:Hs G h L) (e:∀c,Hs G c L->Q (.bool (uF x.st w)) c):Cl Pr K 279 [.agg ⟨x.enc⟩,.bool w] h Q:=by
 refine cW (dB a ?_);intro p h a;cases w;exact bX (aA (aC a rfl (aCy f a (e _ a.tail))));exact eN (aA (aC a rfl (Ty f a (e _ a.tail))))
end
end Go.Proofs.YtcjlkjeeifemhaaGreatDoor.C
section
open Go Go.Ab
attribute [local irreducible] aY Br oM tU tZ Bj kK tW jJ Oy gO lN oP nQ nD iK vN tD I5 Q2 Nf M1 Sb Nl J1 Nj Pc kA mM qI iH copyV gW uU S4 S7 Fa jD Le O1 Ta lS oS wJ yB Cl yG Rz qY qM iP eP cI bS
namespace Go.Proofs.YtcjlkjeeifemhaaGreatDoor.C
open Go Go.Ab Go.Hm Go.Ct
section
set_option maxRecDepth 100000
variable {G:Bg} {h:AH} {L L' M:List HP}
def dX (b o:Nat) (l:List Th):HP:=tV fun x:Option Addr×Nat=>sp [aF b o [.slice x.1 l.length x.2],cU 5 297 x.1 x.2 (l.length,eE l)]
theorem tI {b o:Nat} {l:List Th} (e:Hs G h (dX b o l::L)):∃a c,Hs G h (aF b o [.slice a l.length c]::cU 5 297 a c (l.length,eE l)::L):=by
 obtain⟨⟨a,c⟩,e⟩:=e.yP;exact⟨a,c,e.unpack⟩
theorem iX (b o:Nat) (l:List Th) {a:Option Addr} {c n:Nat} {cs:List Value} {f L2:List HP} (i:Hs G h L) [m:Has (aF b o) L [.slice a n c] f] [m2:Has (cU 5 297 a c) f (n,cs) L2] (g:n=l.length) (e:cs=eE l):Hs G h (dX b o l::L2):=by
 subst g;subst e;exact Hs.vA (A:=fun x:Option Addr×Nat=>sp [aF b o [.slice x.1 l.length x.2],cU 5 297 x.1 x.2 (l.length,eE l)]) (a,c) (Hs.pack (A:=[_,_]) (i.perm (m.perm.trans (m2.perm.cons _))))
structure TgA where
 b:Nat
 o:Nat
 cap:Nat
def rD (ways n b o cap:Nat):List Value:=[I ways,.slice (some ⟨b,o,none⟩) n cap]
def gX (G:Bg) (t ways n:Nat) (S:Nat->List Th):HP:=tV fun x:TgA=>
 sp [aF t 0 (rD ways n x.b x.o x.cap),hole G 1 294 (some ⟨x.b,x.o,none⟩) x.cap n x.b x.o,dC n fun i=>dX x.b (x.o+i*1) (S i)]
theorem Vg {t ways n:Nat} {S:Nat->List Th} (a:Hs G h (gX G t ways n S::L)):∃b o cap,Hs G h (aF t 0 (rD ways n b o cap)::hole G 1 294 (some ⟨b,o,none⟩) cap n b o::dC n (fun i=>dX b (o+i*1) (S i))::L):=by
 obtain⟨⟨b,o,cap⟩,a⟩:=a.yP;exact⟨b,o,cap,a.unpack⟩
theorem A8 {t ways n:Nat} {S:Nat->List Th} {b o cap:Nat} (a:Hs G h (aF t 0 (rD ways n b o cap)::hole G 1 294 (some ⟨b,o,none⟩) cap n b o::dC n (fun i=>dX b (o+i*1) (S i))::L)):Hs G h (gX G t ways n S::L):=
 Hs.vA (A:=fun x:TgA=>sp [aF t 0 (rD ways n x.b x.o x.cap),hole G 1 294 (some ⟨x.b,x.o,none⟩) x.cap n x.b x.o,dC n fun i=>dX x.b (x.o+i*1) (S i)]) ⟨b,o,cap⟩ (Hs.pack (A:=[_,_,_]) a)
def Uf (b o n:Nat) (S:Nat->List Th) (l:Nat):HP:=sp (((List.range n).erase l).map fun i=>dX b (o+i*1) (S i))
theorem Iz {t ways n l:Nat} {S:Nat->List Th} (c:l<n) (a:Hs G h (gX G t ways n S::L)):∃b o cap,Hs G h (dX b (o+l*1) (S l)::aF t 0 (rD ways n b o cap)::hole G 1 294 (some ⟨b,o,none⟩) cap n b o::Uf b o n S l::L):=by
 obtain⟨b,o,cap,a⟩:=Vg a;have a:=(a.front (dC n fun i=>dX b (o+i*1) (S i))).mD l c;exact⟨b,o,cap,(show Hs G h (dX b (o+l*1) (S l)::Uf b o n S l::_) from a).to⟩
theorem sS {f L2 g c:List HP} (t ways n:Nat) (S:Nat->List Th) (l:Nat) (x:List Th) (b o cap:Nat) (q:l<n) (a:Hs G h L) [s:dQ (dX b (o+l*1) x) L f] [u:dQ (aF t 0 (rD ways n b o cap)) f L2]
  [v:dQ (hole G 1 294 (some ⟨b,o,none⟩) cap n b o) L2 g] [w:dQ (Uf b o n S l) g c]:Hs G h (gX G t ways n (bY S l x)::c):=by
 have a:Hs G h (dX b (o+l*1) x::Uf b o n S l::aF t 0 (rD ways n b o cap)::hole G 1 294 (some ⟨b,o,none⟩) cap n b o::c):=
  (a.perm (s.perm.trans ((u.perm.trans ((v.perm.trans (w.perm.cons _)).cons _)).cons _))).to
 have k:(fun i=>dX b (o+i*1) (bY S l x i)) l=dX b (o+l*1) x:=by simp only[jA]
 rw[<-k] at a
 unfold Uf at a
 have a:=a.oZ (n:=n) (i:=l) (fun i=>dX b (o+i*1) (S i)) (fun i=>dX b (o+i*1) (bY S l x i)) q (fun j _ e=>by simp only[Bh e])
 exact A8 (b:=b) (o:=o) (cap:=cap) a.to
theorem aBg {α:Type} {f:Nat->α} {i:Nat}:bY f i (f i)=f:=by
 funext j;unfold bY;split;rename_i e;rw[e];rfl
theorem kq {no:Int} {b o a2 o2 cp p:Nat} {l:List Th} {Q:Value->AH->Prop} (hb:l.length<=4):∀(r i:Nat) (h:AH) (L:List HP),i+r=l.length->ix no (l.take i)=none->Hs G h (aF p 0 [I no]::cU 5 297 (some ⟨a2,o2,none⟩) cp (l.length,eE l)::L)->
  (∀B,Hs G B (aF p 0 [I no]::cU 5 297 (some ⟨a2,o2,none⟩) cp (l.length,eE l)::L)->Q (.tuple ⟨[pt b o 0,I (qh no l),I 0]⟩) B)->
  Dd 345 3 [] Q [(pt b o 0),(I (-1)),(.func (.func 380) #[] #[pt p 0 0]),(.slice (some ⟨a2,o2,none⟩) l.length cp),(I l.length),(I i)] h:=by
 have A:∀(i:Nat) (l:List Th) (t:Th),ix no (l.take i)=none->l[i]?=some t->ix no (l.take (i+1))=if t.1=no then some i else none:=by
  intro i;induction i with
  |zero=>
   intro l t _ s;cases l with
   |nil=>cases s
   |cons a l=>cases s;simp[ix]
  |succ i x=>
   intro l t v s;cases l with
   |nil=>cases s
   |cons a l=>
    simp only[List.take_succ_cons,ix] at v ⊢;by_cases e:a.1=no;rw[aNa e] at v;cases v;rw[aN9 e] at v ⊢;rw[x l t (by simpa using v) (by simpa using s)];split<;>rfl
 have y:∀(l:List Th) (i j:Nat),ix no (l.take i)=some j->ix no l=some j:=by
  intro l;induction l with
  |nil=>intro i j h;simp[ix] at h
  |cons a l x=>
   intro i j h;cases i with
   |zero=>simp[ix] at h
   |succ i=>
    simp only[List.take_succ_cons,ix] at h ⊢;by_cases e:a.1=no;rw[aNa e] at h ⊢;exact h;rw[aN9 e] at h ⊢;cases hx:ix no (l.take i) with
    |none=>rw[hx] at h;cases h
    |some k=>rw[hx] at h;rw[x i k hx];exact h
 intro r
 induction r with
 |zero=>
  intro i h L E z c u
  rw[List.take_of_length_le (by omega)] at z
  simp only[qh,z] at u
  exact bW (aM (aaa (u _ c)))
 |succ r x=>
  intro i h L E z c u
  have w:i<l.length:=by omega
  obtain⟨t,s⟩:∃t,l[i]?=some t:=⟨_,List.getElem?_eq_getElem w⟩
  refine bW (aM (aad (bW (dF w ?_))))
  obtain⟨F,J,D,g⟩:=(c.front (cU 5 297 (some ⟨a2,o2,none⟩) cp (l.length,eE l))).eZ (by omega)
  cases D
  refine Ku g (by decide) (l:=zw t) (by rw[Nat.add_zero];exact Wa s) rfl ?_
  have g:=g.nH (A6 l) (xN l)
  refine bG g ?_
  intro q h c
  refine ax c ?_
  intro h c
  refine aN c (by decide) (l:=zw t) rfl rfl ?_
  refine qJ (by kernel_rfl) (cW ?_)
  refine dB c ?_
  intro K h c
  have f:=A i l t z s
  refine aA (aC c rfl (am p c rfl (aZ (aQ (fun e=>?_) (fun e=>?_)))))
  .rw[aNa e] at f;have:=y _ _ _ f;simp only[qh,this] at u;exact bW (u _ c.to)
  .rw[aN9 e] at f;exact bW (aac (x (i+1) h L (by omega) f c.to u))
theorem Ud {t:Nat} {no:Int} {Q:Value->AH->Prop} (e:no<0) (a:Hs G h L) (f:∀c,Hs G c L->Q (.tuple ⟨[.pointer none,I 0,I 10]⟩) c):Cl Pr K 345 [pt t 0 0,I no] h Q:=by
 refine cW (dB a ?_);intro p h a;exact cS (bX (bW (aC a rfl (aM (bE e (f _ a.tail))))))
theorem kD {n:Nat} {no:Int} (a:0<n):setOf n no<n:=by
 unfold setOf;have:=Int.emod_lt_of_pos no (show(0:Int)<n by omega);have:=Int.emod_nonneg no (show(n:Int)≠0 by omega);omega
theorem uP {t ways n b o cap:Nat} {no:Int} {l:List Th} {Q:Value->AH->Prop} (A:0<n) (y:0<=no) (hb:l.length<=4) (f:Hs G h L) [m:Has (aF t 0) L (rD ways n b o cap) L'] [m2:Has (dX b (o+setOf n no*1)) L' l M]
  (v:∀k,Hs G k (aF t 0 (rD ways n b o cap)::dX b (o+setOf n no*1) l::M)->Q (.tuple ⟨[pt b (o+setOf n no*1) 0,I (qh no l),I 0]⟩) k):Cl Pr K 345 [pt t 0 0,I no] h Q:=by
 have f:Hs G h (aF t 0 (rD ways n b o cap)::dX b (o+setOf n no*1) l::M):=f.perm (m.perm.trans (m2.perm.cons _))
 obtain⟨a,c,f⟩:=tI f.jN
 refine cW (dB f ?_)
 intro p h f
 refine cS (bX (bW (aC f rfl (aM (aaa (bW ?_))))))
 refine aU f ?_
 intro r h f
 have i:Hs G h (aF t 0 (rD ways n b o cap)::_):=f.front (aF t 0 (rD ways n b o cap))
 have x:no % (n:Int)=((setOf n no:Nat):Int):=by
  unfold setOf;have:=Int.emod_nonneg no (show(n:Int)≠0 by omega);omega
 refine aB (aA (am t i rfl (am p i rfl (aB (aA (am t i rfl (bH (Om y (by omega) ?_))))))))
 rw[x]
 refine dF (kD A) (aB ?_)
 have e:Hs G h (aF b (o+setOf n no*1) [.slice a l.length c]::_):=i.front (aF b (o+setOf n no*1) [.slice a l.length c])
 refine aC e rfl (bH ?_)
 by_cases q:l.length=0
 .have s:l=[]:=List.eq_nil_of_length_eq_zero q;subst s;refine bW (aM (aJ (by simp) (v _ ?_)));exact(iX b (o+setOf n no*1) [] (a:=a) (c:=c) e rfl rfl).to
 .have g:=e.front (cU 5 297 a c (l.length,eE l));obtain⟨u,w,z,_⟩:=g.oJ (by omega);subst z;refine kq (no:=no) (p:=p) hb l.length 0 h (aF t 0 (rD ways n b o cap)::aF b (o+setOf n no*1) [.slice (some ⟨u,w,none⟩) l.length c]::M) (by omega) rfl e.to ?_;intro k f;refine v _ ?_;exact(iX b (o+setOf n no*1) l (a:=some ⟨u,w,none⟩) (c:=c) f rfl rfl).to
end
end Go.Proofs.YtcjlkjeeifemhaaGreatDoor.C
end
