/- A part of the proof. -/
import Derived.Test.YtmhapehobfnoiaaGreatDoorQ10
import Derived.Test.YtmhapehobfnoiaaGreatDoorQ9
import Derived.Test.YtmhapehobfnoiaaGreatDoorQ8
import Derived.Test.YtmhapehobfnoiaaGreatDoorQ7
section
open Go Go.Ab
attribute [local irreducible] bA Br ld1 rT sH A2 lH tD kC Nk fZ lT oX oU nW kS xH sY Ts Pe No M5 Qt Ns Ei Gm Sb jV nR qR iK copyV gZ vD Tg Tm E6 jX Kb Pq Tl mL pD uW vP Cl xS Tb qW qT jA eX cS bZ
namespace Go.Proofs.YtmhapehobfnoiaaGreatDoor.H
open Go Go.Ab Go.Hm
section
set_option maxRecDepth 100000
variable {G:Bg} {h:AH} {L L':List HP}
def eO (v:Value) (l:List aQ):HP:=qV fun x:Option Addr×Nat=>sp [rN (v= .slice x.1 l.length x.2),dI 9 162 x.1 x.2 (l.length,eJ l)]
theorem Gj {a:Option Addr} {c n:Nat} {l:List aQ} {cs:List Value} (e:n=l.length) (hc:cs=eJ l) (f:Hs G h (dI 9 162 a c (n,cs)::L)):Hs G h (eO (.slice a n c) l::L):=by
 subst e;subst hc;exact Hs.oZ (A:=fun x:Option Addr×Nat=>sp [rN (Value.slice a l.length c=Value.slice x.1 l.length x.2),dI 9 162 x.1 x.2 (l.length,eJ l)]) (a,c) (Hs.pack (A:=[_,_]) (Hs.Wm rfl f))
theorem s0 {v:Value} {l:List aQ} (e:Hs G h (eO v l::L)):∃a c,v= .slice a l.length c/\Hs G h (dI 9 162 a c (l.length,eJ l)::L):=by
 obtain⟨⟨a,c⟩,e⟩:=e.rS;obtain⟨f,e⟩:=Hs.To e.unpack;exact⟨a,c,f,e⟩
theorem T3 {line state:Int} {l:List Nat} {i:Nat}:hQ line state (l++[i])=hQ line state l++[⟨11,i,line,0,state,0,0,false,0⟩]:=by simp[hQ,aQ.zero]
theorem aEy {f:Nat->Bool} {i j:Nat} {v:Bool}:wS f i v j=if j=i then v else f j:=by
 simp only[wS,Int.ofNat_inj]
theorem Ut {r:Row} {l:List Nat} {i:Nat}:r.gR (l++[i])={r.gR l with asked:=wS (r.gR l).asked i true}:=by
 simp only[Row.gR,Row.mk.injEq,true_and,and_true];funext j;simp only[aEy,List.contains_append];by_cases h:j=i;subst h;simp;simp[h]
theorem aBj {b o i:Nat} {r:Row} {a:Option Addr} {c:Nat} {v:Bool} {k:AH->Prop} (e:Hs G h L) [m:Has (aE b (o+5)) L (r.Lp a c) L'] (j:i<4) (g:∀f,Hs G f (aE b (o+5) (({r with asked:=wS r.asked i v}:Row).Lp a c)::L')->k f):bA (sH h 1 (pt b o (17+(i:Int).toNat*1)) (.bool v)) k:=by
 have e:=m.of e;rw[aH3 (m:=5) (by omega)];have:i=0\/i=1\/i=2\/i=3:=by omega
 rcases this with rfl|rfl|rfl|rfl;all_goals
  refine ay e ?_
  exact g
def prC (b o p2 p5 p8 f:Nat) (line state:Int) (r:Row) (xs:List Nat) (e:Nat->Value) (d l:Nat) (rest:List (List Value)) (done:List Nat) (a:Option Addr) (c:Nat):List HP:=
 [rN (rest=(xs.drop done.length).map fun(c:Nat)=>[I c]),rN (xs.take done.length=done),
    fM Pr 237 (fQ 58) 26 e d l (.ready,none),aE p2 0 [pt b o 0],aE p5 0 [I line],aE p8 0 [I state],Jk b o (r.gR done),
    aE f 0 [.slice a done.length c],dI 9 162 a c (done.length,eJ (hQ line state done))]
def prI (b o p2 p5 p8 a:Nat) (line state:Int) (r:Row) (xs:List Nat) (e:Nat->Value) (d l:Nat) (rest:List (List Value)):HP:=
 qV fun x:List Nat×Option Addr×Nat=>sp (prC b o p2 p5 p8 a line state r xs e d l rest x.1 x.2.1 x.2.2)
theorem aIu {b o p2 p5 p8 f:Nat} {line state:Int} {r:Row} {xs:List Nat} {e:Nat->Value} {d l:Nat} {rest:List (List Value)} (done:List Nat) (a:Option Addr) (c:Nat) (g:rest=(xs.drop done.length).map fun(c:Nat)=>[I c]) (i:xs.take done.length=done)
  (j:Hs G h (sp ((prC b o p2 p5 p8 f line state r xs e d l rest done a c).drop 2)::L)):Hs G h (prI b o p2 p5 p8 f line state r xs e d l rest::L):=
 Hs.oZ (done,a,c) (xT g (xT i j))
theorem aDm {b o p2 p5 p8 g:Nat} {line state:Int} {r:Row} {xs:List Nat} {e:Nat->Value} {d l:Nat} {rest:List (List Value)} (f:Hs G h (prI b o p2 p5 p8 g line state r xs e d l rest::L)):∃done a c,(rest=(xs.drop done.length).map fun(c:Nat)=>[I c])/\xs.take done.length=done/\
  Hs G h (fM Pr 237 (fQ 58) 26 e d l (.ready,none)::aE p2 0 [pt b o 0]::aE p5 0 [I line]::aE p8 0 [I state]::Jk b o (r.gR done)::aE g 0 [.slice a done.length c]::dI 9 162 a c (done.length,eJ (hQ line state done))::L):=by
 obtain⟨⟨done,a,c⟩,f⟩:=Hs.rS f
 obtain⟨i,f⟩:=hJ f
 obtain⟨j,f⟩:=hJ f
 exact⟨done,a,c,i,j,f.unpack⟩
theorem El {b o:Nat} {line state:Int} {r:Row} {g:FuncId} {j:List Value} {A:HP} {xs:List Nat} {Q:Value->AH->Prop} (Y:cf Pr K G g [] j A (xs.map fun(c:Nat)=>[I c])) (V:∀c∈xs,c<4) (X:xs.length<=4) (P:fY Pr g=true)
  (f:Hs G h (A::Jk b o r::L)) (R:∀v s,Hs G s (eO v (hQ line state xs)::A::Jk b o (r.gR xs)::L)->Q v s):
  Cl Pr K 237 [pt b o 0,I line,I state,.func (.func g) #[] ⟨j⟩] h Q:=by
 refine cW ?_
 refine dL f fun Z h f=>dL f fun p5 h f=>dL f fun p8 h f=>bN f fun z h f=>iI f fun d h f=>?_
 intro e O
 refine jL f fun l h f=>?_
 refine oB P ?_
 have f:=gG (W:=9) (e:=162) f
 have D:r.gR []=r:=by simp[Row.gR]
 have y:Hs G h (A::prI b o Z p5 p8 z line state r xs e d l (xs.map fun(c:Nat)=>[I c])::mk d ()::L):=by
  refine Hs.lJ (aIu [] none 0 rfl rfl ?_);rw[<-D] at f;simp only[prC,List.drop_succ_cons,List.drop_zero,List.length_nil,hQ,List.map_nil,Pp];exact f.to
 refine Y _ (rN False) _ _ h _ y ?_ ?_ ?_
 .intro x rest h M f;obtain⟨done,a,c,k,u,U⟩:=aDm f;clear f;cases hx2:xs.drop done.length with
  |nil=>rw[hx2] at k;cases k
  |cons i q=>
   rw[hx2] at k
   simp only[List.map_cons,List.cons.injEq] at k
   obtain⟨rfl,rfl⟩:=k
   have w:i<4:=V i (List.mem_of_mem_drop (by rw[hx2];exact List.mem_cons_self))
   have J:done.length<xs.length:=by
    rcases Nat.lt_or_ge done.length xs.length with h|h;exact h;rw[List.drop_eq_nil_of_le h] at hx2;cases hx2
   obtain⟨B,c2,f⟩:=N4 (U.perm (dX.perm (A:=Jk b o (r.gR done))))
   refine rW (nX f) O ?_
   refine fG f fun h f=>aC f rfl (aB (aA (fI (by omega) (by omega) ?_)))
   rw[Nat.zero_add]
   refine aBj f w fun h f=>aC f rfl (aC f rfl (aC f rfl (aJ (c:=aQ.enc ⟨11,i,line,0,state,0,0,false,0⟩) rfl (aJ (c:=aQ.enc ⟨11,i,line,0,state,0,0,false,0⟩) rfl ?_))))
   refine dC f rfl rfl rfl ?_
   intro a3 h f
   refine rD f (by omega) ?_
   intro a4 c4 h f
   dsimp only
   refine ax f ?_
   intro h f
   refine gK f ?_
   intro h f
   refine .inl ⟨rfl,?_⟩
   rw[<-Ut] at f
   have f:=Yn (r.gR (done++[i])) (f.bL (aE b (o+5) ((r.gR (done++[i])).Lp B c2)) (dI 9 162 B c2 ((r.gR done).waits.length,eJ (r.gR done).waits)))
   have T:(done++[i]).length=done.length+1:=by simp
   have t:xs=done++i::q:=by have:=List.take_append_drop done.length xs;rw[u,hx2] at this;exact this.symm
   refine aIu (done++[i]) a4 c4 ?_ ?_ ?_
   .have:xs=(done++[i])++q:=by simp[t]
    rw[this,List.drop_left]
   .have:xs=(done++[i])++q:=by simp[t]
    rw[this,List.take_left]
   .simp only[prC,List.drop_succ_cons,List.drop_zero,T,T3,xJ,Mx,Pp,List.append_nil];exact f.to
 .intro v s f;obtain⟨done,a,c,k,u,f⟩:=aDm f.lJ;have F:xs=done:=by
   have:xs.drop done.length=[]:=by simpa using k.symm
   rw[<-u,List.take_of_length_le (by simpa using this)]
  subst F
  refine jN f fun s f=>jR ?_
  refine aC f rfl (jW f fun s f=>iT ?_)
  refine R _ _ ?_
  have E:(hQ line state xs).length=xs.length:=by simp[hQ]
  have f:=Gj (l:=hQ line state xs) E.symm rfl (f.perm (dX.perm (A:=dI 9 162 a c (xs.length,eJ (hQ line state xs)))))
  exact f.to
 .intro v s f;exact(Hs.To (f.lJ)).1.elim
end
section
set_option maxRecDepth 100000
variable {G:Bg} {h:AH} {L L':List HP}
theorem ae {b o:Nat} {x:Int} {c':List Value} {a:Option Addr} {c:Nat} {v:Bool} {k:AH->Prop} (r:Row) (g:Hs G h L) [m:Has (aE b o) L c' L'] (hc:c'=r.enc a c) (i:0<=x/\x<4) (f:∀e,Hs G e (aE b o (({r with sh:=wS r.sh x v}:Row).enc a c)::L')->k e):bA (sH h 1 (pt b o (0+1+x.toNat*1)) (.bool v)) k:=by
 subst hc;have:x=0\/x=1\/x=2\/x=3:=by omega
 rcases this with rfl|rfl|rfl|rfl;all_goals
  refine ay g ?_
  exact f
theorem aFs {b o:Nat} {x:Int} {c':List Value} {a:Option Addr} {c:Nat} {v:Bool} {k:AH->Prop} (r:Row) (g:Hs G h L) [m:Has (aE b o) L c' L'] (hc:c'=r.enc a c) (i:0<=x/\x<4) (f:∀e,Hs G e (aE b o (({r with asked:=wS r.asked x v}:Row).enc a c)::L')->k e):bA (sH h 1 (pt b o (0+17+x.toNat*1)) (.bool v)) k:=by
 subst hc;have:x=0\/x=1\/x=2\/x=3:=by omega
 rcases this with rfl|rfl|rfl|rfl;all_goals
  refine ay g ?_
  exact f
def lN (mb:Nat) (C:bQ) (b o cap:Nat):List Value:=[pt mb 0 0,I C.aD,I C.bM,I C.bC,I C.ways,I C.depth,I C.entries,I C.aK,.slice (some ⟨b,o,none⟩) C.lines cap]
structure HmA where
 mb:Nat
 b:Nat
 o:Nat
 cap:Nat
def aFk (G:Bg) (hb:Nat) (C:bQ) (H:lB) (x:HmA):List HP:=
 [aE hb 0 (lN x.mb C x.b x.o x.cap),eM G C.lines x.mb C (fun i=>(H i).2),hole G 25 222 (some ⟨x.b,x.o,none⟩) x.cap C.lines x.b x.o,dE C.lines fun i=>eI x.b (x.o+i*25) (H i).1]
def fO (G:Bg) (hb:Nat) (C:bQ) (H:lB):HP:=qV fun x:HmA=>sp (aFk G hb C H x)
def zC (b o n:Nat) (H:lB) (l:Nat):HP:=sp (((List.range n).erase l).map fun i=>eI b (o+i*25) (H i).1)
theorem nE {hb:Nat} {C:bQ} {H:lB} (a:Hs G h (fO G hb C H::L)):∃mb b o cap,Hs G h (aE hb 0 (lN mb C b o cap)::eM G C.lines mb C (fun i=>(H i).2)::hole G 25 222 (some ⟨b,o,none⟩) cap C.lines b o::dE C.lines (fun i=>eI b (o+i*25) (H i).1)::L):=by
 obtain⟨⟨mb,b,o,cap⟩,a⟩:=a.rS;exact⟨mb,b,o,cap,a.unpack⟩
theorem D3 {hb l:Nat} {C:bQ} {H:lB} (c:l<C.lines) (a:Hs G h (fO G hb C H::L)):∃mb b o cap,Hs G h (eI b (o+l*25) (H l).1::aE hb 0 (lN mb C b o cap)::eM G C.lines mb C (fun i=>(H i).2)::hole G 25 222 (some ⟨b,o,none⟩) cap C.lines b o::zC b o C.lines H l::L):=by
 obtain⟨mb,b,o,cap,a⟩:=nE a;have a:=(a.front (dE C.lines fun i=>eI b (o+i*25) (H i).1)).kH l c;exact⟨mb,b,o,cap,(show Hs G h (eI b (o+l*25) (H l).1::zC b o C.lines H l::_) from a).to⟩
theorem pU {hb:Nat} {C:bQ} {H:lB} {mb b o cap:Nat} (a:Hs G h (aE hb 0 (lN mb C b o cap)::eM G C.lines mb C (fun i=>(H i).2)::hole G 25 222 (some ⟨b,o,none⟩) cap C.lines b o::dE C.lines (fun i=>eI b (o+i*25) (H i).1)::L)):Hs G h (fO G hb C H::L):=
 Hs.oZ (A:=fun x=>sp (aFk G hb C H x)) ⟨mb,b,o,cap⟩ (Hs.pack (A:=aFk G hb C H ⟨mb,b,o,cap⟩) a)
theorem mem_of {H:lB} {l:Nat} {x:sQ}:(fun i=>(cB H l x i).2)=cB (fun i=>(H i).2) l x.2:=by
 funext i;unfold cB;split<;>rfl
theorem eQ {f L2 g k c:List HP} (hb:Nat) (C:bQ) (H:lB) (l:Nat) (r:Row) (m:Ln) (mem:Nat->Ln) (mb b o cap:Nat) (s:l<C.lines) (t:mem=cB (fun i=>(H i).2) l m) (a:Hs G h L) [u:dX (eI b (o+l*25) r) L f] [v:dX (aE hb 0 (lN mb C b o cap)) f L2] [w:dX (eM G C.lines mb C mem) L2 g]
  [y:dX (hole G 25 222 (some ⟨b,o,none⟩) cap C.lines b o) g k] [z:dX (zC b o C.lines H l) k c]:Hs G h (fO G hb C (cB H l (r,m))::c):=by
 subst t
 have a:Hs G h (eI b (o+l*25) r::zC b o C.lines H l::aE hb 0 (lN mb C b o cap)::eM G C.lines mb C (cB (fun i=>(H i).2) l m)::hole G 25 222 (some ⟨b,o,none⟩) cap C.lines b o::c):=
  (a.perm (u.perm.trans ((v.perm.trans ((w.perm.trans ((y.perm.trans (z.perm.cons _)).cons _)).cons _)).cons _))).to
 have q:(fun i=>eI b (o+i*25) (cB H l (r,m) i).1) l=eI b (o+l*25) r:=by simp only[gP]
 rw[<-q] at a
 unfold zC at a
 have a:=a.nQ (n:=C.lines) (i:=l) (fun i=>eI b (o+i*25) (H i).1) (fun i=>eI b (o+i*25) (cB H l (r,m) i).1) s (fun j _ e=>by simp only[xA e])
 rw[<-mem_of (x:=(r,m))] at a
 exact pU (mb:=mb) (b:=b) (o:=o) (cap:=cap) a.to
theorem Cz {a:Addr} {n:aQ} {cs:List Value} (hc:cs=n.enc) (c:Hs G h (dI 9 162 (some a) 1 (1,cs)::L)):Hs G h (eO (.slice (some a) 1 1) [n]::L):=Gj rfl (by rw[hc];simp) c
theorem qA (a:Hs G h L):Hs G h (eO (.slice none 0 0) []::L):=Gj rfl rfl (gG a)
section
variable {b o p:Nat} {r:Row} {wa:Option Addr} {wc:Nat} {line:Int} {d:Ln} {Q:Value->AH->Prop}
theorem eF (b o:Nat) (r:Row) (a:Option Addr) (c:Nat) {c':List Value} {n:Nat} {cs:List Value} {f L2:List HP} (i:Hs G h L) [m:Has (aE b o) L c' f] (hc:c'=r.enc a c) [m2:Has (dI 9 162 a c) f (n,cs) L2] (g:n=r.waits.length) (e:cs=eJ r.waits):Hs G h (eI b o r::L2):=by
 subst hc;subst g;subst e;exact kA r (i.perm (m.perm.trans (m2.perm.cons _)))
theorem aB6 (e:r.served.kind=2) (c:Hs G h (aE p 0 (r.rB line 0 d).enc::aE b o (r.enc wa wc)::dI 9 162 wa wc (r.waits.length,eJ r.waits)::L)) (g:∀v f,Hs G f (eO v (r.hU line d).2::eI b o (r.hU line d).1::L)->Q v f):
  Dd 293 3 [] Q [(pt b o 0),(I r.served.core),(pt p 0 0)] h:=by
 simp only[Row.hU,aLy e] at g
 refine bW ?_
 repeat' first
  |refine aA ?_
  |refine aB ?_
  |refine aN c (by decide) rfl rfl ?_
  |(refine ay c ?_;intro h c)
  |(refine dC c rfl rfl rfl ?_;intro a h c)
  |refine aJ rfl ?_
 refine g _ _ ?_
 have c:=Cz (n:=r.rB line 4 d) rfl c
 exact(eF b o {r with owner:=r.served.core,sh:=fun _=>false,granted:=true} wa wc c rfl rfl rfl).to
theorem aCc (g:r.served.kind≠2) (hc:0<=r.served.core/\r.served.core<4) (c:Hs G h (aE p 0 (r.rB line 0 d).enc::aE b o (r.enc wa wc)::dI 9 162 wa wc (r.waits.length,eJ r.waits)::L)) (e:∀v i,Hs G i (eO v (r.hU line d).2::eI b o (r.hU line d).1::L)->Q v i):
  Dd 293 4 [] Q [(pt b o 0),(I r.served.core),(pt p 0 0)] h:=by
 simp only[Row.hU,aLx g] at e
 have c:=eF b o r wa wc c rfl rfl rfl
 refine bW (uV c fun c=>?_)
 obtain⟨wa,wc,c⟩:=dU c
 refine bG (aT (fun f=>?_) (fun f=>?_))
 .rw[aLy f] at e;refine bW (aA (ay c ?_));intro h c;refine aB (aA (ay c ?_));intro h c;refine aB (aA (fI hc.1 hc.2 (ae {r with owner:=r.served.core} c rfl hc ?_)));intro h c;repeat' first
   |refine aA ?_
   |refine aB ?_
   |refine aN c (by decide) rfl rfl ?_
   |(refine ay c ?_;intro h c)
   |(refine dC c rfl rfl rfl ?_;intro a h c)
   |refine aJ rfl ?_
  refine e _ _ ?_
  have c:=Cz (n:=r.rB line 2 d) rfl c
  exact(eF b o {r with owner:=r.served.core,sh:=wS r.sh r.served.core false,granted:=true} wa wc c rfl rfl rfl).to
 .rw[aLx f] at e;refine bW (aA (ay c ?_));intro h c;refine aB (aA (fI hc.1 hc.2 (ae r c rfl hc ?_)));intro h c;repeat' first
   |refine aA ?_
   |refine aB ?_
   |refine aN c (by decide) rfl rfl ?_
   |(refine ay c ?_;intro h c)
   |(refine dC c rfl rfl rfl ?_;intro a h c)
   |refine aJ rfl ?_
  refine e _ _ ?_
  have c:=Cz (n:=r.rB line 1 d) rfl c
  exact(eF b o {r with sh:=wS r.sh r.served.core true,granted:=true} wa wc c rfl rfl rfl).to
end
theorem eU {H:lB} {l:Nat}:cB (fun i=>(H i).2) l (H l).2=fun i=>(H i).2:=rV
theorem Dj {C:bQ} (hC:C.Ok) {hb l:Nat} {H:lB} {Q:Value->AH->Prop} (j:Ob G 0 eY) (a:Hs G h L) [m:Has (fO G hb C) L H L'] (q:l<C.lines) (hc:0<=(H l).1.served.core/\(H l).1.served.core<4)
  (u:∀v e,Hs G e (eO v ((H l).1.hU l ((H l).1.mj (H l).2)).2::fO G hb C (cB H l (((H l).1.hU l ((H l).1.mj (H l).2)).1,(H l).2))::L')->Q v e):
  Cl Pr K 293 [pt hb 0 0,I l] h Q:=by
 obtain⟨mb,b,o,cap,a⟩:=D3 q (m.of a)
 refine cW ?_
 have k:∀d,d=(H l).1.mj (H l).2->∀p wa wc h,Hs G h (aE p 0 ((H l).1.rB l 0 d).enc::aE b (o+l*25) ((H l).1.enc wa wc)::dI 9 162 wa wc ((H l).1.waits.length,eJ (H l).1.waits)::aE hb 0 (lN mb C b o cap)::eM G C.lines mb C (fun i=>(H i).2)::hole G 25 222 (some ⟨b,o,none⟩) cap C.lines b o::zC b o C.lines H l::L')->
   (((H l).1.served.kind=2->Dd 293 3 [] Q [(pt b (o+l*25) 0),(I (H l).1.served.core),(pt p 0 0)] h)/\((H l).1.served.kind≠2->Dd 293 4 [] Q [(pt b (o+l*25) 0),(I (H l).1.served.core),(pt p 0 0)] h)):=by
  intro d t p wa wc h a
  subst t
  have g:∀v e,Hs G e (eO v ((H l).1.hU l ((H l).1.mj (H l).2)).2::eI b (o+l*25) ((H l).1.hU l ((H l).1.mj (H l).2)).1::aE hb 0 (lN mb C b o cap)::eM G C.lines mb C (fun i=>(H i).2)::hole G 25 222 (some ⟨b,o,none⟩) cap C.lines b o::zC b o C.lines H l::L')->Q v e:=fun v e a=>
   u v e (eQ hb C H l ((H l).1.hU l ((H l).1.mj (H l).2)).1 (H l).2 (fun i=>(H i).2) mb b o cap q eU.symm a).to
  exact⟨fun f=>aB6 f a g,fun f=>aCc f hc a g⟩
 obtain⟨wa,wc,a⟩:=dU a
 refine aB (aA (aC a rfl (dO q (aB (aA (aA (aC a rfl ?_)))))))
 refine aS a ?_
 intro w h a
 refine aB (aA (aC a rfl (aB (aA (aN a (by decide) (l:=[I (H l).1.d0,I (H l).1.d1]) rfl rfl (aJ (c:=((H l).1.rB l 0 ((H l).1.d0,(H l).1.d1)).enc) rfl ?_))))))
 refine kI a rfl rfl ?_
 intro p h a
 refine ax a ?_
 intro h a
 refine aB (aA (aC a rfl (bY (dY (dH (fun s=>?_) (fun s=>?_))))))
 .refine bW (aB (aA (aA (aC a rfl (bG ?_)))));have:=k ((H l).1.d0,(H l).1.d1) (by simp[Row.mj,s]) p wa wc h a.to;exact aT this.1 this.2
 .refine bW (aB (aA (aC a rfl (gn hC j a q fun h a=>?_))));refine aG rfl (aG rfl (aA (ay a ?_)));intro h a;refine aB (aA (aA (aC a rfl (bG ?_))));have:=k (H l).2 (by simp[Row.mj,s]) p wa wc h (a.sg (b:=p) (o:=0) (c:=((H l).1.rB l 0 (H l).2).enc) rfl).to;exact aT this.1 this.2
end
section
set_option maxRecDepth 100000
variable {G:Bg} {h:AH} {L L':List HP}
def Nv (e:TypeId) (p:Nat) (a:Option Addr) (c:Nat) (xs:List Int):HP:=sp [aE p 0 [.slice a xs.length c],dI 1 e a c (xs.length,xs.map I)]
theorem Od {e:TypeId} {a:Option Addr} {c n:Nat} {xs:List Int} {Q:Value->AH->Prop} (j:n=xs.length) (f:Hs G h L) [m:Has (dI 1 e a c) L (n,xs.map I) L'] (i:∀p g,Hs G g (Nv e p a c xs::L')->Q (.func (.func 152) #[] #[pt p 0 0]) g):Cl Pr K 99 [.slice a n c] h Q:=by
 subst j;have f:=m.of f;refine cW (dL f ?_);intro p h f;exact i p _ (Hs.pack (A:=[_,_]) f)
theorem Em {e:TypeId} {p:Nat} {a:Option Addr} {c:Nat} {xs:List Int} (D:xs.length<2^62):cf Pr K G 152 [] [pt p 0 0] (Nv e p a c xs) (xs.map fun x=>[I x]):=by
 intro q J y L h Q g A t u;refine cW ?_;refine aC g.unpack rfl (bH ?_);have loop:∀(f i:Nat) (h:AH),i+f=xs.length->Hs G h (Nv e p a c xs::q ((xs.drop i).map fun x=>[I x])::L)->Dd 152 1 [] Q [y,(.slice a xs.length c),(I xs.length),(I i)] h:=by
  intro f;induction f with
  |zero=>
   intro i h w g;refine bW (aI (aaa ?_));rw[List.drop_eq_nil_of_le (by omega)] at g;exact t _ _ g
  |succ f B=>
   intro i h w g;have j:i<xs.length:=by omega
   refine bW (aI (aad (bW ?_)));obtain⟨b,o,rfl,H,k,_⟩:=(g.unpack.front (dI 1 e a c (xs.length,xs.map I))).oT (by omega);refine dO j (aCz k (v:=I xs[i]) (by simp[j]) ?_);rw[List.drop_eq_getElem_cons j] at g;refine(A _ _ h _ g.lJ).mono fun v s z=>?_;rcases z with⟨rfl,g⟩|⟨rfl,g⟩;exact bY (bP (bW (aac (B (i+1) s (by omega) g.lJ))));exact bY (dN (u _ _ g.lJ))
 exact loop xs.length 0 h (by omega) g
section
variable {hb p mb b o cap l:Nat} {C:bQ} {H:lB} {n:aQ} {r:Row} {m:Ln} {Q:Value->AH->Prop}
def qS (G:Bg) (hb p mb b o cap l:Nat) (C:bQ) (H:lB) (n:aQ) (r:Row) (m:Ln):List HP:=
 [eI b (o+l*25) r,aE p 0 n.enc,aE hb 0 (lN mb C b o cap),eM G C.lines mb C (cB (fun i=>(H i).2) l m),hole G 25 222 (some ⟨b,o,none⟩) cap C.lines b o,zC b o C.lines H l]
theorem Xr (hC:C.Ok) (e:Ob G 0 eY) (i:l<C.lines) (j:n.line=l) (hc:0<=r.served.core/\r.served.core<4) (q:r.quiet=true) (a:Hs G h (qS G hb p mb b o cap l C H n r m++L))
  (c:∀v k,Hs G k (eO v (r.rest l m).2::fO G hb C (cB H l ((r.rest l m).1,m))::L)->Q v k):Dd 275 7 [] Q [(pt hb 0 0),(pt p 0 0),(pt b (o+l*25) 0)] h:=by
 simp only[qS,List.cons_append,List.nil_append] at a
 simp only[Row.rest,aLy q] at c
 have f:=a
 obtain⟨wa,wc,a⟩:=dU (show Hs G h (eI b (o+l*25) r::_) from a)
 refine bW (aB (aA (aA (aC a rfl (bG (aT (fun g=>?_) (fun g=>?_)))))))
 .rw[aLy g] at c;refine bW (gx f fun h a=>c _ _ ?_);exact(qA (eQ hb C H l r.free m _ mb b o cap i rfl a)).to
 .rw[aLx g] at c;refine aA (aC a rfl ?_);rw[j];have a:=eQ hb C H l r m _ mb b o cap i rfl f;refine Dj hC e a i (by simp only[gP];exact hc) fun v h a=>c _ _ ?_;simp only[gP,Cj] at a;exact a.to
theorem Yh (hC:C.Ok) (f:Ob G 0 eY) (s:l<C.lines) (j:n.line=l) (hc:0<=r.served.core/\r.served.core<4) (e:Hs G h (qS G hb p mb b o cap l C H n r m++L))
  (i:∀v q,Hs G q (eO v (r.rest l m).2::fO G hb C (cB H l ((r.rest l m).1,m))::L)->Q v q):Dd 275 4 [] Q [(pt hb 0 0),(pt p 0 0),(pt b (o+l*25) 0)] h:=by
 have g:=e
 simp only[qS,List.cons_append,List.nil_append] at e
 have k:=e
 obtain⟨wa,wc,e⟩:=dU (show Hs G h (eI b (o+l*25) r::_) from e)
 refine bW (aB (aA (aN e (by decide) (l:=[.bool (r.asked 0),.bool (r.asked 1),.bool (r.asked 2),.bool (r.asked 3)]) rfl rfl (aJ (c:=[.bool false,.bool false,.bool false,.bool false]) rfl (xv (dH (fun a=>?_) (fun a=>?_)))))))
 .have a:r.quiet=false:=by unfold Row.quiet;rw[a];rfl
  simp only[Row.rest,a,Bool.false_eq_true,if_false] at i
  refine i _ _ ?_
  exact(qA (eQ hb C H l r m _ mb b o cap s rfl (show Hs G h (eI b (o+l*25) r::_) from k))).to
 .have a:r.quiet=true:=by unfold Row.quiet;rw[a];rfl
  exact Xr hC f s j hc a g i
end
end
end Go.Proofs.YtmhapehobfnoiaaGreatDoor.H
namespace Go.Proofs.YtmhapehobfnoiaaGreatDoor
open Go Go.Ab Go.Hm Go.At Go.Mc
section
def A4:Mc.jH:=⟨0,0,0,0,0,0,false,0,fun _=>false⟩
def Ac (r:Mc.jH):List Value:=[I r.core,I r.world,I r.call,I r.cN,I r.to]
def nG (r:Mc.jH):List Value:=[I r.core,I r.world,I r.call,I r.cN,I r.to,I r.then',.bool r.Bk]
def fK (f:Nat->Option Mc.jH) (k:Nat):Option Value:=(f k).map fun r=> .agg ⟨r.enc⟩
theorem Ga {f:Nat->Option Mc.jH} {g:Nat} {x:Option Mc.jH}:Ja (fK f) g (x.map fun r=> .agg ⟨r.enc⟩)=fK (cB f g x):=by
 funext k;unfold Ja fK cB;split<;>rfl
theorem ig {m:Mon}:Bl (fK m.runs)=m.running:=by
 unfold Bl Mon.running;congr 1;funext k;unfold fK;cases m.runs k<;>rfl
theorem ry {m:Mon} {g:Int}:(if 0<=g then fK m.runs g.toNat else none)=(m.run g).map fun r=>Value.agg ⟨r.enc⟩:=by
 unfold Mon.run fK;split<;>rfl
set_option maxRecDepth 100000
variable {G:Bg} {h:AH} {L L' M:List HP} {Q:Value->AH->Prop} {C:bQ} {m:Mon} {p:Nat}
def fD (C:bQ) (p:Nat) (m:Mon):HP:=qV fun x:Nat×Nat=>sp [aE p 0 [pt x.1 0 0,I C.aD,fS x.2],gL x.1 m.dD,iA x.2 (fK m.runs)]
theorem jP (a:Hs G h (fD C p m::L)):∃t b,Hs G h (aE p 0 [pt t 0 0,I C.aD,fS b]::gL t m.dD::iA b (fK m.runs)::L):=by
 obtain⟨⟨t,b⟩,a⟩:=a.rS;exact⟨t,b,a.yG⟩
theorem dR {t b:Nat} (a:Hs G h (aE p 0 [pt t 0 0,I C.aD,fS b]::gL t m.dD::iA b (fK m.runs)::L)):Hs G h (fD C p m::L):=
 Hs.oZ (A:=fun x:Nat×Nat=>sp [aE p 0 [pt x.1 0 0,I C.aD,fS x.2],gL x.1 m.dD,iA x.2 (fK m.runs)]) (t,b) a.M4
theorem O4 {b:Nat} {g:Int} {k:Value->Prop} (c:Hs G h L) [e:Has (iA b) L (fK m.runs) L'] (a:k (.agg ⟨((m.run g).getD A4).enc⟩)):bA (lkV (.agg ⟨[(I 0),(I 0),(I 0),(I 0),(I 0),(I 0),(.bool false),(I 0),(.bool false),(.bool false),(.bool false),(.bool false)]⟩) h (fS b) (I g) false) k:=by
 refine aJw c ?_;rw[ry];cases hr:m.run g with
 |none=>rw[hr] at a;exact a
 |some r=>rw[hr] at a;exact a
theorem oz {g:Int}:((m.run g).getD A4).phase=m.phase g:=by
 unfold Mon.phase;cases m.run g<;>rfl
theorem Lh {g:Int} (a:Hs G h L) [f:Has (fD C p) L m L'] (e:∀c,Hs G c (fD C p m::L')->Q (I (m.phase g)) c):Cl Pr K 102 [pt p 0 0,I g] h Q:=by
 obtain⟨t,b,a⟩:=jP (f.of a);refine cW (cK (bP (aB (aA (am p a rfl (O4 (m:=m) a (ic rfl ?_)))))));show Q _ _;rw[oz];exact e _ (dR a)
theorem aIf {g:Int} (a:Hs G h L) [k:Has (fD C p) L m L'] (j:∀l i,Hs G i (fD C p m::L')->(m.phase g≠0->l=Ac ((m.run g).getD A4))->l.length=5->l.all eK=true->Q (.tuple ⟨[.agg ⟨l⟩,.bool (decide (m.phase g≠0))]⟩) i):Cl Pr K 52 [pt p 0 0,I g] h Q:=by
 refine cW (bN a fun q h a=>Lh (C:=C) (m:=m) a fun h a=>bG (aT (fun f=>?_) (fun f=>?_)));refine aJ (c:=(Ac A4)) rfl (ax (b:=q) a fun h a=>an q a (l:=(Ac A4)) rfl rfl ?_);have:=j (Ac A4) h a.to (fun e=>absurd f e) rfl rfl;rw[decide_eq_false (by omega)] at this;exact this;obtain⟨t,b,a⟩:=jP a;refine aB (aA (am p a rfl (O4 (m:=m) a (Io (m:=nG ((m.run g).getD A4)) rfl rfl (Io (m:=Ac ((m.run g).getD A4)) rfl rfl ?_)))));refine ax (b:=q) a fun h a=>an q a (l:=Ac ((m.run g).getD A4)) rfl rfl ?_;have:=j _ h (dR (t:=t) (b:=b) a.to) (fun _=>rfl) rfl rfl;rw[decide_eq_true f] at this;exact this
theorem Ce (f:Hs G h L) [u:Has (fD C p) L m L'] (s:∀q a c i,Hs G i (H.Nv 3 q a c (m.running.map fun k:Nat=>(k:Int))::fD C p m::L')->Q (.func (.func 152) #[] #[pt q 0 0]) i):Cl Pr K 51 [pt p 0 0] h Q:=by
 obtain⟨t,b,f⟩:=jP (u.of f);refine cW (cK (bP (aB (aA (am p f rfl ?_)))));refine cW (aI0 f fun q h f=>?_);have f:Hs G h (aE q 0 [fS b]::mt q (157,true,1)::iA b (fK m.runs)::aE p 0 [pt t 0 0,I C.aD,fS b]::gL t m.dD::L'):=f.to;refine vr (e:=3) rfl f fun a g h f=>?_;rw[ig (m:=m)] at f ⊢;have e:(m.running.map fun k:Nat=>I k)=(m.running.map fun k:Nat=>(k:Int)).map I:=by rw[List.map_map];rfl
 rw[e] at f;refine H.Od (e:=3) (xs:=m.running.map fun k:Nat=>(k:Int)) (by simp) f fun j h f=>?_;have f:Hs G h (aE p 0 [pt t 0 0,I C.aD,fS b]::gL t m.dD::iA b (fK m.runs)::H.Nv 3 j a g (m.running.map fun k:Nat=>(k:Int))::L'):=f.to;exact s j a g _ (dR f).lJ
end
end Go.Proofs.YtmhapehobfnoiaaGreatDoor
end
namespace Go.Ct
open Go Go.Ab Go.Hm
section
variable {n ways:Nat} {S:Nat->List Th} {no:Int} {x:qC}
theorem Qm {l:List Th} (h:no∉l.map (·.1)):rem no l=l:=by
 induction l with
 |nil=>rfl
 |cons t l a=>
  simp only[List.map_cons,List.mem_cons,not_or] at h;unfold rem;grind
theorem aA1 {l:List Th} (a:(l.map (·.1)).Nodup):rem no (rem no l)=rem no l:=Qm (R2 a)
theorem r6 {l:List Th} (h:get no l=some x):(rem no l).length<l.length:=by
 rw[Ic,h];have:=get_mem h;grind
theorem Gr (a:(cF n S no).2=0):get no (S (setOf n no))=some (cF n S no).1/\0<=no:=by
 unfold cF at a ⊢;grind
theorem yv (c:∀i,mK ways (S i)) (e:(cF n S no).2=0):(oD n ways S no x).2=0:=by
 obtain⟨a,f⟩:=Gr e;have:=r6 a;have:=(c (setOf n no)).len;unfold oD;grind
theorem aCl (a:0<=no):mI n S no (setOf n no)=rem no (S (setOf n no)):=by
 unfold mI cB;rw[aab,aLy rfl]
theorem Uv (a:∀i,mK ways (S i)) (c:(cF n S no).2=0):yw n ways S no=0:=by
 obtain⟨e,f⟩:=Gr c;have:=r6 e;have:=(a (setOf n no)).len;unfold yw;rw[aLy c];unfold oD;rw[aCl f,aA1 (a _).nd,aab]
theorem y7 (c:∀i,mK ways (S i)) (f:0<=no) (a:(oD n ways S no x).2=0):cF n (oD n ways S no x).1 no=(x,0):=by
 unfold oD at a ⊢;split at a;cases a;rename_i e;rw[aLx e];unfold cF cB;rw[aab];dsimp only;rw[aLy rfl,xt (R2 (c _).nd)]
theorem vt (c:∀i,mK ways (S i)) (a:(cF n S no).2=0):cF n (Gf n ways S no) no=cF n S no:=by
 obtain⟨g,f⟩:=Gr a;have e:=Uv c a;unfold yw at e;rw[aLy a] at e;unfold Gf;rw[aLy a,y7 (rU c) f e];grind
theorem Vv {S:Nat->List Th} {l a:Int} {w:Bool} (h:oS n S l a w=true):oS n S l a false=true:=by
 unfold oS at h ⊢;unfold rP at h ⊢;grind [vV,V2]
end
end Go.Ct
section
namespace Go.Hm
open Go Go.Ab
structure pX (k:Nat) (r:Row):Prop where
 core:0<=r.served.core/\r.served.core<4
 owner: -1<=r.owner/\r.owner<4
 waits:∀n∈r.waits,n.line=k/\(0<=n.core/\n.core<4)/\(n.kind=0\/n.kind=1\/n.kind=2\/n.kind=3)
 apart:∀i:Nat,i<4->r.sh i=true->(i:Int)≠r.owner
 want:r.busy=true->r.granted=false->r.served.kind=0\/r.served.kind=2\/r.owner≠r.served.core
 still:r.granted=true\/r.busy=false->r.quiet=true
 gb:r.granted=true->r.busy=true
theorem pX.inv {k:Nat} {r:Row} (h:pX k r):r.Inv:=⟨h.core,h.owner,fun n a=>(h.waits n a).2.1⟩
theorem aHb (k:Nat):pX k Dq:=⟨by decide,by decide,by simp[Dq],by simp[Dq],by simp[Dq],fun _=>rfl,by simp[Dq]⟩
theorem quiet_of {r r':Row} (h:r'.asked=r.asked):r'.quiet=r.quiet:=by unfold Row.quiet;rw[h]
theorem Hk {k:Nat} {r:Row} {c:Int} (h:pX k r):pX k (r.leave c) where
 core:=h.core
 owner:=by unfold Row.leave;simp only;split;omega;exact h.owner
 waits:=h.waits
 apart:=fun i g a=>by
  unfold Row.leave wS at a ⊢;simp only at a ⊢;split at a;cases a;split;omega;exact h.apart i g a
 want:=fun e f=>by
  rcases h.want e f with h|h|j;exact .inl h;exact .inr (.inl h);refine .inr (.inr ?_);have:=h.core;unfold Row.leave;grind
 still:=fun e=>(quiet_of (r':=r.leave c) rfl).trans (h.still e)
 gb:=h.gb
theorem Oy {k:Nat} {r:Row} (h:pX k r) (c:r.quiet=true):pX k r.free where
 core:=by show(0:Int)<=0/\(0:Int)<4;omega
 owner:=h.owner
 waits:=h.waits
 apart:=h.apart
 want:=fun a=>by cases a
 still:=fun _=>(quiet_of (r':=r.free) rfl).trans c
 gb:=fun a=>by cases a
theorem Oh {k:Nat} {r:Row} {n:aQ} (h:pX k r) (a:n.line=k) (c:0<=n.core/\n.core<4) (e:n.kind=0\/n.kind=1\/n.kind=2\/n.kind=3):pX k (r.wait n) where
 core:=h.core
 owner:=h.owner
 waits:=fun m hm=>by
  rcases List.mem_append.1 hm with hm|hm;exact h.waits m hm;grind
 apart:=h.apart
 want:=h.want
 still:=fun a=>(quiet_of (r':=r.wait n) rfl).trans (h.still a)
 gb:=h.gb
theorem j6 {k:Nat} {r:Row} {n:aQ} {w:List aQ} (h:pX k r) (e:r.waits=n::w):pX k (r.next w) where
 core:=h.core
 owner:=h.owner
 waits:=fun m c=>h.waits m (by rw[e];exact List.mem_cons_of_mem _ c)
 apart:=h.apart
 want:=h.want
 still:=fun a=>(quiet_of (r':=r.next w) rfl).trans (h.still a)
 gb:=h.gb
structure G1 (k:Nat) (r:Row):Prop where
 core:0<=r.served.core/\r.served.core<4
 owner: -1<=r.owner/\r.owner<4
 waits:∀n∈r.waits,n.line=k/\(0<=n.core/\n.core<4)/\(n.kind=0\/n.kind=1\/n.kind=2\/n.kind=3)
 apart:∀i:Nat,i<4->r.sh i=true->(i:Int)≠r.owner
 want:r.served.kind=0\/r.served.kind=2\/r.owner≠r.served.core
 busy:r.busy=true
 gr:r.granted=false
theorem G1.aAi {k:Nat} {r:Row} (h:G1 k r):pX k r:=⟨h.core,h.owner,h.waits,h.apart,fun _ _=>h.want,fun a=>by rw[h.busy,h.gr] at a;simp at a,fun a=>by rw[h.gr] at a;cases a⟩
theorem Cw {k:Nat} {r:Row} {line:Int} {d:Ln} (h:G1 k r) (j:r.served.kind≠0) (f:r.quiet=true):pX k (r.hU line d).1:=by
 have q:=h.core;unfold Row.hU;split;exact⟨h.core,by simp only;omega,h.waits,fun i _ c=>(by cases c),fun _ a=>(by cases a),fun _=>f,fun _=>h.busy⟩;rename_i a;split;refine⟨h.core,by simp only;omega,h.waits,fun i g c=>?_,fun _ a=>(by cases a),fun _=>f,fun _=>h.busy⟩;simp only[wS] at c ⊢;grind;refine⟨h.core,h.owner,h.waits,fun i g c=>?_,fun _ a=>(by cases a),fun _=>f,fun _=>h.busy⟩;simp only[wS] at c ⊢;split at c;rename_i e;rcases h.want with h|h|h;exact absurd h j;exact absurd h a;grind;exact h.apart i g c
theorem yI {k:Nat} {r:Row} {l:List Nat} (h:G1 k r):pX k (r.gR l):=G1.aAi ⟨h.core,h.owner,h.waits,h.apart,h.want,h.busy,h.gr⟩
theorem ku {k:Nat} {r:Row} {line:Int} {m:Ln} (h:G1 k r):pX k (r.rest line m).1:=by
 unfold Row.rest;split;rename_i a;split;exact Oy h.aAi a;rename_i c;exact Cw h c a;exact h.aAi
theorem Ye {k:Nat} {r:Row} {n:aQ} (h:pX k r) (t:0<=n.core/\n.core<4) (q:r.asked n.core.toNat=true):G1 k (r.heard n):=by
 have j:r.quiet=false:=by
  have:n.core.toNat=0\/n.core.toNat=1\/n.core.toNat=2\/n.core.toNat=3:=by omega
  unfold Row.quiet;grind
 have a:r.granted=false:=by
  cases a:r.granted with
  |false=>rfl
  |true=>have:=h.still (.inl a);grind
 have hb:r.busy=true:=by
  cases hb:r.busy with
  |true=>rfl
  |false=>have:=h.still (.inr hb);grind
 have e:G1 k (r.mN n):=⟨h.core,h.owner,h.waits,h.apart,h.want hb a,hb,a⟩;have f:G1 k ((r.mN n).Gp n):=⟨h.core,by show -1<=(-1:Int)/\(-1:Int)<4;omega,h.waits,fun i s _=>by show(i:Int)≠ -1;omega,by
  have:=h.core;right;right;show(-1:Int)≠r.served.core;omega,hb,a⟩
 have g:∀{r:Row},G1 k r->G1 k (r.qY n):=fun h=>⟨h.core,h.owner,h.waits,h.apart,h.want,h.busy,h.gr⟩;unfold Row.heard;split;have:=Hk (c:=n.core) e.aAi;exact⟨this.core,this.owner,this.waits,this.apart,this.want hb a,hb,a⟩;split;split;exact g f;exact f;split;exact g e;exact e
theorem j2 {k:Nat} {x:sQ} {n:aQ} (h:pX k x.1) (i:fT n.kind) (e:n.line=k) (c:0<=n.core/\n.core<4):pX k (sQ.take x k n).1.1:=by
 unfold sQ.take;split;split;exact h;rename_i f;have a:x.1.granted=true:=by
  cases a:x.1.granted with
  |true=>rfl
  |false=>exact absurd (.inl a) f
 exact Oy h (h.still (.inl a));split;split;exact h;rename_i g;exact ku (Ye h c (by simpa using g));rename_i j q;exact Oh h e c (by unfold fT at i;omega)
theorem H0 {r:Row} {x:Int}:∀(f i:Nat),r.zW x f i≠ -1->r.gI x f i≠[]:=by
 intro f;induction f with
 |zero=>intro i h;exact absurd rfl h
 |succ f a=>
  intro i h;unfold Row.zW at h;unfold Row.gI;grind
theorem Vg {r:Row} {x:Int}:∀(f i:Nat),∀c∈r.gI x f i,(c:Int)≠x:=by
 intro f;induction f with
 |zero=>intro i c a;simp[Row.gI] at a
 |succ f g=>
  intro i c a;unfold Row.gI at a;split at a;rename_i e;rcases List.mem_cons.1 a with rfl|a;unfold Row.holds at e;simp at e;exact e.1;exact g _ c a;exact g _ c a
def aQ.tB (n:aQ):aQ:=if n.kind=0 then {n with core:= -1} else n
theorem Kz {k:Nat} {r:Row} {d:Ln} {n:aQ} (f:r.served.core=n.core) (c:n.kind=1\/n.kind=2) (e:n.line=k):(∀m∈(r.hU k d).2,m.fits n.tB (r.hU k d).2.length)/\(r.hU k d).2≠[]:=by
 have g:n.tB=n:=by unfold aQ.tB;rw[aab]
 rw[g];unfold Row.hU;split;refine⟨fun m a=>?_,by simp⟩;rw[List.mem_singleton.1 a];exact⟨e.symm,rfl,.inl ⟨rfl,f,rfl,c⟩⟩;split;refine⟨fun m a=>?_,by simp⟩;rw[List.mem_singleton.1 a];exact⟨e.symm,rfl,.inl ⟨rfl,f,rfl,c⟩⟩;refine⟨fun m a=>?_,by simp⟩;rw[List.mem_singleton.1 a];exact⟨e.symm,rfl,.inl ⟨rfl,f,rfl,c⟩⟩
theorem zJ {k:Nat} {n:aQ} {st:Int} {l:List Nat} (f:n.line=k) (j:n.kind=1\/n.kind=2\/(n.kind=0/\st=0)) (hc:∀c∈l,(c:Int)≠n.tB.core) {len:Nat}:∀m∈hQ k st l,m.fits n.tB len:=by
 intro m g;obtain⟨c,a,rfl⟩:=List.mem_map.1 g;have e:n.tB.line=k:=by unfold aQ.tB;split<;>exact f
 have i:n.tB.kind=n.kind:=by unfold aQ.tB;split<;>rfl
 refine⟨e.symm,rfl,.inr (.inr (.inr ⟨rfl,rfl,hc c a,?_⟩))⟩;grind
theorem aB5 {k:Nat} {r:Row} {n:aQ} {w:Int} {m:Ln} (h:pX k r) (hb:r.busy=false) (g:n.line=k) (s:0<=n.core/\n.core<4) (v:n.kind=1\/n.kind=2):
  pX k (r.get k m n w).1/\(∀x∈(r.get k m n w).2,x.fits n.tB (r.get k m n w).2.length)/\(r.get k m n w).2≠[]:=by
 have y:=h.still (.inr hb)
 have f:r.granted=false:=by
  cases f:r.granted with
  |false=>rfl
  |true=>have:=h.gb f;grind
 have u:n.tB=n:=by unfold aQ.tB;rw[aab]
 unfold Row.get
 simp only
 split
 .rename_i j;have z:G1 k (r.serve n w):=⟨s,h.owner,h.waits,h.apart,.inr (.inl j),rfl,f⟩;unfold Row.getM;split
  .rename_i a;refine⟨yI z,?_,?_⟩
   .exact zJ g (.inr (.inl j)) (fun c q=>by rw[u];exact Vg 4 0 c q)
   .have:=H0 4 0 a;intro e;exact this (List.map_eq_nil_iff.1 e)
  .exact⟨Cw z (by show n.kind≠0;omega) y,Kz rfl v g⟩
 .rename_i j;have D:n.kind=1:=by omega
  have A:(r.serve n w).tG.served=n/\(r.serve n w).tG.asked=r.asked/\((r.serve n w).tG.owner= -1\/((r.serve n w).tG.owner=r.owner/\r.owner≠n.core))/\G1 k (r.serve n w).tG:=by
   unfold Row.tG;split;refine⟨rfl,rfl,.inl rfl,⟨s,by grind,h.waits,fun i _ _=>by grind,.inr (.inr ?_),rfl,f⟩⟩;show(-1:Int)≠n.core;omega;rename_i a;exact⟨rfl,rfl,.inr ⟨rfl,a⟩,⟨s,h.owner,h.waits,h.apart,.inr (.inr a),rfl,f⟩⟩
  generalize(r.serve n w).tG=r2 at A
  obtain⟨B,E,F,t⟩:=A
  unfold Row.j1
  split
  .rename_i a;refine⟨yI t,?_,by simp[hQ]⟩;refine zJ g (.inl D) (fun c q=>?_);rw[List.mem_singleton.1 q,u];have:=t.owner;omega
  .exact⟨Cw t (by rw[B];omega) (by rw[quiet_of E];exact y),Kz (by rw[B]) v g⟩
theorem nh {k:Nat} {r:Row} {n:aQ} {m:Ln} {j:Int->Int×Bool} (h:pX k r) (hb:r.busy=false) (i:n.line=k) (u:0<=n.core/\n.core<4) (v:n.kind=0\/n.kind=1\/n.kind=2\/n.kind=3):
  pX k (r.begun k m n j).1.1/\(∀x∈(r.begun k m n j).2,x.fits n.tB (r.begun k m n j).2.length)/\((r.begun k m n j).2≠[]\/n.tB.kind=0):=by
 have y:=h.still (.inr hb)
 have q:r.granted=false:=by
  cases q:r.granted with
  |false=>rfl
  |true=>have:=h.gb q;rw[hb] at this;cases this
 unfold Row.begun
 split
 .rename_i t;have f:n.tB=n:=by unfold aQ.tB;rw[aab]
  refine⟨Hk h,fun x s=>?_,.inl (by simp)⟩
  rw[List.mem_singleton.1 s,f]
  exact⟨i.symm,rfl,.inr (.inr (.inl ⟨rfl,rfl,rfl,rfl,t⟩))⟩
 .rename_i t;split
  .rename_i e;have f:n.tB=n:=by unfold aQ.tB;rw[aab]
   split
   .obtain⟨a,b,c⟩:=aB5 (m:=m) (w:=(j n.world).1) h hb i u e;grind
   .refine⟨h,fun x s=>?_,.inl (by simp)⟩;rw[List.mem_singleton.1 s,f];exact⟨i.symm,rfl,.inr (.inl ⟨rfl,rfl,rfl,rfl,e⟩)⟩
  .rename_i e;have g:n.kind=0:=by omega
   have f:n.tB={n with core:= -1}:=by unfold aQ.tB;rw[aLy g]
   split
   .grind
   .refine⟨yI (r:=r.Jr n) ⟨u,h.owner,h.waits,h.apart,.inl g,rfl,q⟩,?_,.inr (by rw[f];exact g)⟩;exact zJ i (.inr (.inr ⟨g,rfl⟩)) (fun c _=>by grind)
end Go.Hm
namespace Go.Hm
open Go Go.Ab
theorem yJ {r:Row} {line:Int} {d:Ln}:(r.hU line d).1.waits=r.waits:=by
 unfold Row.hU;grind
theorem Z9 {r:Row} {line:Int} {m:Ln}:(r.rest line m).1.waits=r.waits:=by
 unfold Row.rest;split;split;rfl;exact yJ;rfl
theorem Wa {r:Row} {n:aQ}:(r.heard n).waits=r.waits:=by
 unfold Row.heard;repeat' split
 all_goals rfl
theorem o6 {r:Row} {line:Int} {m:Ln} {n:aQ} {w:Int}:(r.get line m n w).1.waits=r.waits:=by
 have a:(r.serve n w).tG.waits=r.waits:=by unfold Row.tG;split<;>rfl
 unfold Row.get;simp only;split;unfold Row.getM;split;rfl;exact yJ;unfold Row.j1;split;exact a;rw[yJ];exact a
theorem Vf {r:Row} {line:Int} {m:Ln} {n:aQ} {j:Int->Int×Bool}:(r.begun line m n j).1.1.waits=r.waits:=by
 unfold Row.begun;split;rfl;split;split;exact o6;rfl;split<;>rfl
def C0:bQ:=⟨3,2,1,1,4,2,2⟩
def Mq (H:lB) (R:Nat->List aQ) (i:Nat):Prop:=∀k,k<4->pX k (H k).1/\R k=(H k).1.waits.map aQ.tB/\(H k).1.waits.length<=i
theorem Mq.h {H:lB} {R:Nat->List aQ} {i:Nat} (h:Mq H R i) (N:Nat) (c:i<=N):vF C0 H N:=fun k a=>⟨(h k a).1.inv,Nat.le_trans (h k a).2.2 c⟩
theorem Mq.rR {H:lB} {R:Nat->List aQ} {i l:Nat} {x:sQ} {w:List aQ} (h:Mq H R i) (g:pX l x.1) (j:w=x.1.waits.map aQ.tB) (q:x.1.waits.length<=i+1):Mq (cB H l x) (cB R l w) (i+1):=by
 intro k f;unfold cB;by_cases e:k=l;grind;simp only[aLx e];obtain⟨a,b,c⟩:=h k f;grind
theorem Mq.same {H:lB} {R:Nat->List aQ} {i l:Nat} {x:sQ} (h:Mq H R i) (c:l<4) (e:pX l x.1) (a:x.1.waits=(H l).1.waits):Mq (cB H l x) R (i+1):=by
 have:=h.rR (x:=x) (w:=R l) e (by rw[a];exact(h l c).2.1) (by rw[a];have:=(h l c).2.2;omega);rwa [show cB R l (R l)=R from rV] at this
theorem Mq.up {H:lB} {R:Nat->List aQ} {i:Nat} (h:Mq H R i):Mq H R (i+1):=fun k a=>⟨(h k a).1,(h k a).2.1,by have:=(h k a).2.2;omega⟩
theorem Fk {r:Row} {line:Int} {d:Ln}:(r.hU line d).2.length<=4:=by
 unfold Row.hU;grind
theorem Bw {line st:Int} {l:List Nat}:(hQ line st l).length=l.length:=by simp[hQ]
theorem aCf {r:Row} {line:Int} {m:Ln} {n:aQ} {w:Int}:(r.get line m n w).2.length<=4:=by
 unfold Row.get;simp only;split;unfold Row.getM;split;rw[Bw];exact tH;exact Fk;unfold Row.j1;split;simp[Bw];exact Fk
theorem nw {r:Row} {line:Int} {m:Ln} {n:aQ} {j:Int->Int×Bool}:(r.begun line m n j).2.length<=4:=by
 unfold Row.begun;split;simp;split;split;exact aCf;simp;split;simp;rw[Bw];exact tH
theorem Tf {C:bQ} {H:lB} {l:Int} {j:Int->Int×Bool}:(kR C H l j).2.1.length<=4:=by
 unfold kR;split;unfold sQ.begin;split;simp;split;simp;exact nw;simp
end Go.Hm
end
namespace Go.Mc
open Go Go.Ab Go.Hm Go.At Go.Is Go.Ct Go.Nt
section
structure gX (C:bQ) (m:Mon):Prop where
 len:m.dD.length=C.bM.toNat
 own:∀x∈m.dD,0<=x.owner/\x.owner<=4
 run:∀g r,m.runs g=some r->(g:Int)<C.bM/\r.cN=g/\(r.phase=1\/r.phase=2)/\(0<=r.core/\r.core<C.aD)/\(0<=r.then'/\r.then'<=4)
def cv (Cf:bQ) (F:fV):Prop:=∀c w,(F c w).length<=Cf.depth
theorem gX.wF {C:bQ} {m:Mon} (h:gX C m) {g:Int} (a:m.has g):0<=(m.wF g).owner/\(m.wF g).owner<=4:=by
 refine h.own _ ?_;unfold Mon.has at a;unfold Mon.wF;grind
theorem gX.aHe {C:bQ} {m:Mon} (hC:C.Ok) (a:gX C m):∀g r,m.runs g=some r->g<16:=by
 intro g r c;have:=(a.run g r c).1;have:=hC.2.1;omega
theorem cv.Np {Cf:bQ} {F:fV} (hC:Cf.Ok) (h:cv Cf F):∀c w,(F c w).length<=500:=by
 intro c w;have:=h c w;have:=hC.2.2.2.2.1;omega
structure sb (Cf:bQ) (M:cX) (i:Nat):Prop where
 dG:gX Cf M.dG
 D7:(M.aR i).Ok
 I2:mF Cf (M.cC i)
 uO:(M.bT i).known.length<=100
 iZ:cv Cf M.iZ
 log:M.log.length<=2^30
structure vM (Cf:bQ) (M:cX) (n:aQ):Prop where
 core:0<=n.core/\n.core<Cf.aD
 dG:gX Cf M.dG
 home:vF Cf M.home (2^30 - 4)
 I2:mF Cf (M.cC n.core.toNat)
 uO:(M.bT n.core.toNat).known.length<=100
 cN:0<=(M.bT n.core.toNat).cN/\(M.bT n.core.toNat).cN<Cf.bM
 word:n.kind=12->0<=n.d0/\n.d0<=1000000
structure ma (C:bQ) (n:aQ):Prop where
 uO:uO C n=0
 word:n.kind=12->0<=n.d0/\n.d0<=1000000
def Ti (C:bQ) (N:Nat) (H:lB):Prop:=∀l,l<C.lines->pX l (H l).1/\(H l).1.waits.length<=N
structure Mf (C:bQ) (F:fV):Prop where
 len:cv C F
 note:∀c w,∀n∈F c w,ma C n/\n.core.toNat=c/\gB n=w
def xU (C:bQ) (c:kY):Prop:=(c.known.length:Int)<=C.entries/\0<=c.cN/\c.cN<C.bM
structure eN (C:bQ) (N:Nat) (M:cX):Prop where
 dG:gX C M.dG
 D7:∀i:Nat,(i:Int)<C.aD->(M.aR i).Ok
 I2:∀i:Nat,(i:Int)<C.aD->mF C (M.cC i)
 uO:∀i:Nat,(i:Int)<C.aD->xU C (M.bT i)
 home:Ti C N M.home
 iZ:Mf C M.iZ
 log:M.log.length<=N
variable {C:bQ} {N:Nat} {M:cX}
theorem Ti.h {H:lB} (h:Ti C N H) {K:Nat} (c:N<=K):vF C H K:=fun l a=>⟨(h l a).1.inv,Nat.le_trans (h l a).2 c⟩
theorem xU.len (hC:C.Ok) {c:kY} (h:xU C c):c.known.length<=100:=by
 have:=h.1;have:C.entries<=8:=by unfold bQ.Ok at hC;omega
 omega
theorem eN.step (h:eN C N M) (hC:C.Ok) (c:N<=2^29) {i:Nat} (a:(i:Int)<C.aD):sb C M i:=⟨h.dG,h.D7 i a,h.I2 i a,(h.uO i a).len hC,h.iZ.len,by have:=h.log;omega⟩
theorem U2 {n:aQ} (h:uO C n=0):Rh n.kind/\0<=n.core/\n.core<C.aD:=by
 unfold Nt.uO at h;split at h
 .rename_i f;split at h
  .split at h
   .rename_i j;refine⟨f,?_⟩;have a:=j.1;unfold Rh at f;have:∃c,Ej n.kind.toNat=1::c:=by
     rcases k14 (k:=n.kind.toNat) (by omega) with e|e|e|e|e|e|e|e|e|e|e|e|e|e;omega;all_goals rw[e];exact⟨_,rfl⟩
    obtain⟨c,g⟩:=this;rw[g] at a;unfold qK at a;split at a;rename_i i;exact i;cases a
   cases h
  cases h
 cases h
theorem py {n:aQ} (h:uO C n=0) (c:n.kind=8):n.state=1\/n.state=2\/n.state=4:=by
 unfold Nt.uO at h;rw[c] at h;split at h;split at h;split at h;rename_i f;have a:=f.1;rw[show Ej (8:Int).toNat=[1,2,4,6,8,9] from rfl] at a;simp only[qK] at a;split at a;split at a;split at a;split at a;rename_i e;exact e;cases a;cases a;cases a;cases a;cases h;cases h;cases h
theorem Vc {F:fV} {a b c:Int} (hF:Mf C F) (e:(F.take C a b c).2.2=0):ma C (F.take C a b c).2.1/\(F.take C a b c).2.1∈F a.toNat b.toNat:=by
 unfold fV.take at e ⊢;by_cases i:(0<=a/\a<C.aD)/\(0<=b/\b<4);rw[aLx (fun h=>h i)] at e ⊢;dsimp only at e ⊢;by_cases f:F a.toNat b.toNat=[];grind;rw[aLx f];have q:0<(F a.toNat b.toNat).length:=List.length_pos_iff.2 f;have hb:(c % ((F a.toNat b.toNat).length:Int)).toNat<(F a.toNat b.toNat).length:=by
  have j:=Int.emod_nonneg c (show((F a.toNat b.toNat).length:Int)≠0 by omega);have k:=Int.emod_lt_of_pos c (show(0:Int)<((F a.toNat b.toNat).length:Int) by omega);omega
 have g:(F a.toNat b.toNat).getD (c % ((F a.toNat b.toNat).length:Int)).toNat aQ.zero∈F a.toNat b.toNat:=by
  grind
 exact⟨(hF.note _ _ _ g).1,g⟩;grind
theorem Wg {F:fV} {a b c:Int} (hF:Mf C F):Mf C (F.take C a b c).1:=by
 unfold fV.take;split;exact hF;dsimp only;split;exact hF;constructor;intro x y;unfold fV.set;dsimp only;split;rename_i e;have:=hF.len x y;grind;exact hF.len x y;intro x y n f;unfold fV.set at f;dsimp only at f;split at f;rename_i e;have:=hF.note _ _ n (List.mem_of_mem_eraseIdx f);grind;exact hF.note x y n f
theorem aBy {F:fV} {n:aQ} (hF:Mf C F) (c:ma C n) (a:((F n.core.toNat (gB n)).length:Int)<C.depth):Mf C (F.put n):=by
 constructor;intro x y;unfold fV.put fV.set;split;grind;exact hF.len x y;intro x y k hk;unfold fV.put fV.set at hk;split at hk;rename_i e;rcases List.mem_append.1 hk with hk|hk;rw[e.1,e.2];exact hF.note _ _ k hk;grind;exact hF.note x y k hk
theorem tk:∀{l:List aQ} {F a:fV},Mf C F->(∀n∈l,ma C n)->fV.H4 C.depth F l=some a->Mf C a:=by
 intro l;induction l with
 |nil=>intro F a hF _ h;cases h;exact hF
 |cons n l g=>
  intro F a hF c h;unfold fV.H4 at h;split at h;rename_i e;exact g (aBy hF (c n List.mem_cons_self) e) (fun k f=>c k (List.mem_cons_of_mem _ f)) h;cases h
theorem Uy:∀{l:List aQ},bT C l=0->∀n∈l,Nt.uO C n=0
 |[],_,n,a=>by cases a
 |k::l,h,n,a=>by
  unfold bT at h;split at h;grind;rename_i c;rcases List.mem_cons.1 a with rfl|a;simpa using c;exact Uy h n a
theorem zH {F:fV} {l:List aQ} (hF:Mf C F) (f:∀n∈l,n.kind=12->0<=n.d0/\n.d0<=1000000):Mf C (F.send C l).1:=by
 unfold fV.send;split;exact hF;rename_i c;split;rename_i g e;exact tk hF (fun n a=>⟨Uy (by simpa using c) n a,f n a⟩) e;exact hF
theorem Xk {s:bE} (a:s.Ok) (h:s.over=false):Fits (yV s.prog s.at') s.prog.length/\s.at'<s.prog.length:=by
 have c:=a.2.2.1;rw[h] at c;have e:=Rt c.symm;exact⟨Ww (a.2.2.2.2 _ (W1 a.1 e)),e⟩
theorem oL {s t:bE} {a:Int} (c:s.Ok) (f:t.prog=s.prog) (e:0<=a) (g:a<=s.prog.length):(t.pA a).Ok:=by
 unfold bE.Ok bE.pA;dsimp only;rw[f];exact⟨e,by have:=c.2.2.2.1;omega,rfl,c.2.2.2.1,c.2.2.2.2⟩
theorem yk {s:bE} {i:Nat} {r:bE×Ev} (a:s.Ok) (h:bE.pK s i=some r):r.1.Ok:=by
 unfold bE.pK bE.next? at h;cases hov:s.over with
 |true=>grind
 |false=>
  rw[hov] at h;simp only[Bool.false_eq_true,if_false] at h;obtain⟨c,g⟩:=Xk a hov;have f:=a.1;split at h;cases h;exact oL a rfl (by omega) (by omega);split at h;cases h;exact oL a rfl (by omega) (by omega);split at h;cases h;exact oL a rfl (by omega) (by omega);split at h;split at h;cases h;exact oL a rfl (by omega) (by omega);cases h;exact oL a rfl (by omega) (by omega);split at h;rename_i e;have:=c.p1 e;cases h;exact oL a rfl (by omega) (by omega);split at h;rename_i e;have:=c.p2 e;cases h;refine oL a rfl ?_ ?_;split<;>omega;split<;>omega;cases h
theorem mq {s:bE} {i:Nat} {v c:Int} (a:s.Ok):(bE.cH s i v c).1.Ok:=by
 unfold bE.cH;cases hn:bE.next? s with
 |none=>exact a
 |some x=>
  have e:s.over=false:=by
   unfold bE.next? at hn;cases h:s.over with
   |false=>rfl
   |true=>rw[h] at hn;simp at hn
  obtain⟨g,j⟩:=Xk a e;have f:=a.1;dsimp only;split;exact oL a rfl (by omega) (by omega);split;split;exact a;split;exact oL a rfl (by omega) (by omega);split;exact oL a rfl (by omega) (by omega);exact oL a rfl (by omega) (by omega);exact a
theorem sn (hC:C.Ok) {c:kY} {f:Int×Int} (h:xU C c):xU C (c.Hl C f):=by
 have a:1<=C.entries:=by unfold bQ.Ok at hC;omega
 refine⟨?_,h.2⟩;unfold kY.Hl;dsimp only;have:=h.1;grind
theorem jk {c:kY} {g:Int} (h:xU C c):xU C (c.begin C g).1:=by
 unfold kY.begin;split;exact h;rename_i a;split;exact h;split;exact h;refine⟨h.1,?_⟩;show 0<=g/\g<C.bM;simpa using a
theorem mf (hC:C.Ok) {c:kY} {a w:Int} (h:xU C c):xU C (c.walked C a w).1:=by
 have e:1<=C.bM:=hC.2.1.1;unfold kY.walked;split;exact h;split;exact h;split;exact h;dsimp only;split;exact h;split;exact h;split;exact h;refine⟨(sn hC h).1,?_⟩;show(0:Int)<=0/\(0:Int)<C.bM;omega
theorem aB9 {c:kY} {g:Int} (h:xU C c):xU C (c.drop C g).1:=by
 unfold kY.drop;split;exact h;refine⟨?_,h.2⟩;have:=List.length_filter_le (fun x:Int×Int=> !decide (g= -1\/x.1=g)) c.known;have:=h.1;dsimp only;omega
end
section
variable {C:bQ} {N:Nat} {M:cX}
theorem eN.mono {K:Nat} (h:eN C N M) (c:N<=K):eN C K M:=⟨h.dG,h.D7,h.I2,h.uO,fun l a=>⟨(h.home l a).1,Nat.le_trans (h.home l a).2 c⟩,h.iZ,Nat.le_trans h.log c⟩
theorem Qs {α:Type} {P:α->Prop} {s:Nat->α} {i:Nat} {t:α} {n:Int} (h:∀j:Nat,(j:Int)<n->P (s j)) (c:P t):∀j:Nat,(j:Int)<n->P (cB s i t j):=by
 intro j a;unfold cB;grind
theorem eN.dT (h:eN C N M) {F:fV} (hF:Mf C F):eN C N (M.dT F):={h with iZ:=hF}
theorem eN.oF (h:eN C N M) {m:Mon} (a:gX C m):eN C N (M.oF m):={h with dG:=a}
theorem eN.sL (h:eN C N M) {H:lB} {K:Nat} (a:N<=K) (hH:Ti C K H):eN C K (M.sL H):={h.mono a with home:=hH}
theorem eN.tA (h:eN C N M) {i:Nat} {c:jJ} (hc:mF C c):eN C N (M.tA i c):={h with I2:=Qs h.I2 hc}
theorem eN.B6 (h:eN C N M) {i:Nat} {c:kY} (hc:xU C c):eN C N (M.B6 i c):={h with uO:=Qs h.uO hc}
theorem eN.yB (h:eN C N M) {i:Nat} {c:bE} (hc:c.Ok):eN C N (M.yB i c):={h with D7:=Qs h.D7 hc}
theorem eN.V1 (h:eN C N M) {v:Ev}:eN C (N+1) (M.V1 v):={h.mono (Nat.le_succ N) with log:=by show(M.log++[v]).length<=N+1;rw[List.length_append,List.length_singleton];have:=h.log;omega}
theorem aA9 {m:Mon} (h:gX C m) {g:Int} (a:m.has g):0<=(m.wF g).owner/\(m.wF g).owner<=4:=by
 refine h.own _ ?_;unfold Mon.has at a;unfold Mon.wF;grind
theorem dq {m:Mon} (h:gX C m) {g:Nat} {x:iB} (c:0<=x.owner/\x.owner<=4):gX C (m.kh g x):=
 ⟨by show(m.dD.set g x).length=_;rw[List.length_set];exact h.len,fun y a=>by
  rcases List.mem_or_eq_of_mem_set a with a|rfl;exact h.own y a;exact c,h.run⟩
theorem Sc {m:Mon} (h:gX C m) {g:Nat} {x:Option Mc.jH} (c:∀r,x=some r->(g:Int)<C.bM/\r.cN=g/\(r.phase=1\/r.phase=2)/\(0<=r.core/\r.core<C.aD)/\(0<=r.then'/\r.then'<=4)):gX C (m.dJ g x):=
 ⟨h.len,h.own,fun k r a=>by
  unfold Mon.dJ cB at a;dsimp only at a;split at a;grind;exact h.run k r a⟩
theorem r9 {c w o t:Int}:0<=(lA c w o t).1/\(lA c w o t).1<=4:=by
 unfold lA;grind
theorem yr {m:Mon} (h:gX C m) {a:Mc.Ask}:gX C (m.call C.aD a).1:=by
 unfold Mon.call;split;exact h;rename_i f;split;exact h;rename_i c;have c:m.has a.cN:=Decidable.not_not.1 c;split;exact h;split;exact h;dsimp only;split;exact h;have i:=h.len;have e:=c;unfold Mon.has at e;refine Sc (dq h (x:=⟨(m.wF a.cN).owner,true⟩) (aA9 h c)) fun r g=>?_;cases g;refine⟨by omega,?_,.inl rfl,Decidable.not_not.1 f,r9⟩;show a.cN=_;omega
theorem Hv {m:Mon} (h:gX C m) {g c:Int}:gX C (m.dropped C.aD g c).1:=by
 unfold Mon.dropped;split;exact h;rename_i j;have j:m.has g:=Decidable.not_not.1 j;split;exact h;rename_i r f;split;exact h;split;exact h;unfold Mon.run at f;split at f;refine Sc h fun k i=>?_;cases i;obtain⟨a,b,c,d,e⟩:=h.run _ r f;refine⟨a,b,?_,d,e⟩;unfold jH.mH jH.heard;grind;cases f
theorem Wf {m:Mon} (h:gX C m) {g:Int}:gX C (m.over g).1/\∀u,(m.over g).2.1=some u->0<=u.core/\u.core<C.aD:=by
 unfold Mon.over;split;grind;split;grind;rename_i r f;split;grind;unfold Mon.run at f;split at f;obtain⟨a,b,c,d,e⟩:=h.run _ r f;exact⟨Sc (dq h e) (fun r f=>by cases f),(fun u i=>by cases i;exact d)⟩;cases f
theorem Ti.rR {H:lB} (h:Ti C N H) {l:Nat} {x:sQ} (c:pX l x.1) (e:x.1.waits.length<=N+1):Ti C (N+1) (cB H l x):=by
 intro k a;unfold cB;split;grind;exact⟨(h k a).1,Nat.le_succ_of_le (h k a).2⟩
theorem Ti.mono {H:lB} {K:Nat} (h:Ti C N H) (c:N<=K):Ti C K H:=fun l a=>⟨(h l a).1,Nat.le_trans (h l a).2 c⟩
theorem Pd {H:lB} {l:Int} (h:Ti C N H):Ti C (N+1) (lX C H l).1:=by
 unfold lX;split;rename_i a;obtain⟨k,rfl⟩:=Int.eq_ofNat_of_zero_le a.1;have e:k<C.lines:=by have:=a.2;omega
 simp only[Int.toNat_natCast];obtain⟨c,f⟩:=h k e;refine h.rR (Oh c rfl (by show(0:Int)<=0/\(0:Int)<4;omega) (.inl rfl)) ?_;show((H k).1.waits++[Cr k]).length<=N+1;simp;omega;exact h.mono (Nat.le_succ N)
theorem qq {H:lB} {n:aQ} (hC:C.Ok) (h:Ti C N H):Ti C (N+1) (gQ C H n).1:=by
 have s:=hC.1;unfold gQ;split;exact h.mono (Nat.le_succ N);rename_i f;have f:fT n.kind:=Decidable.not_not.1 f;split;rename_i u;obtain⟨v,i⟩:=u;obtain⟨l,a⟩:=Int.eq_ofNat_of_zero_le i.1;have t:l<C.lines:=by have:=i.2;omega
 have e:n.line.toNat=l:=by omega
 simp only[e];obtain⟨j,k⟩:=h l t;have q:=j2 (x:=H l) j f a (by omega);rw[a];refine h.rR q ?_;by_cases c:n.kind=4;unfold sQ.take;rw[aLy c];split;grind;exact Nat.le_succ_of_le k;by_cases g:n.kind=5;unfold sQ.take;rw[aLx c,aLy g];split;grind;simp only[sQ.P6,Z9,Wa];omega;unfold sQ.take;rw[aLx c,aLx g];show((H l).1.waits++[n]).length<=N+1;simp;omega;exact h.mono (Nat.le_succ N)
theorem il {H:lB} {l:Int} {j:Int->Int×Bool} (h:Ti C N H):Ti C (N+1) (kR C H l j).1:=by
 unfold kR;split;rename_i i;obtain⟨k,rfl⟩:=Int.eq_ofNat_of_zero_le i.1;have q:k<C.lines:=by have:=i.2;omega
 simp only[Int.toNat_natCast];obtain⟨e,g⟩:=h k q;unfold sQ.begin;split;exact h.rR e (Nat.le_succ_of_le g);rename_i hb;cases hw:(H k).1.waits with
 |nil=>exact h.rR e (Nat.le_succ_of_le g)
 |cons n w=>
  simp only;have f:=e.waits n (by grind);obtain⟨a,b,c⟩:=nh (m:=(H k).2) (j:=j) (j6 e hw) (show((H k).1.next w).busy=false from(by simpa using hb:(H k).1.busy=false)) f.1 f.2.1 f.2.2;refine h.rR a ?_;rw[Vf];show w.length<=N+1;grind
 exact h.mono (Nat.le_succ N)
theorem iw {H:lB} {g:Int} (h:Ti C N H):Ti C N (zK H g):=by
 intro l a;unfold zK;split;exact h l a;exact h l a
theorem nu {n g:Int} (c:0<=n/\n<=16) (a:0<=g/\g<=100):0<=pL n g/\pL n g<=1000:=by unfold pL;omega
theorem xf {es:List iB} (s:es.length<=16) (i:∀x∈es,0<=x.owner/\x.owner<=4) {a:Int}:0<=(uZ es a).1/\(uZ es a).1<=1000000:=by
 have f:∀k,0<=(es.getD k kX).owner/\(es.getD k kX).owner<=4:=by
  intro k;rw[List.getD_eq_getElem?_getD];cases hk:es[k]? with
  |none=>show(0:Int)<=0/\(0:Int)<=4;omega
  |some x=>grind
 have c:∀w∈jQ es,0<=w/\w<=1000000:=by
  intro w hw;unfold jQ at hw;rcases List.mem_append.1 hw with hw|hw;obtain⟨j,e,rfl⟩:=List.mem_map.1 hw;have e:=List.mem_range.1 e;unfold V8;split;grind;have:=nu (n:=es.length) (g:=((4*j:Nat):Int)) (by omega) (by omega);omega;obtain⟨x,q,rfl⟩:=List.mem_map.1 hw;have:=i x q;unfold j0;split<;>omega
 unfold uZ;split;simp_all;grind
theorem yR (h:eN C N M) {i:Nat} {v c:Int} (a:(i:Int)<C.aD):eN C (N+1) (M.cH i v c).1:=by
 unfold cX.cH;dsimp only;split;exact h.mono (Nat.le_succ N);exact(h.yB (mq (h.D7 i a))).V1
def KK (k:Int):Prop:=k=6\/k=7\/k=12\/k=13
theorem aF2 {l:List aQ} (h:∀n∈l,n.kind≠12):∀n∈l,n.kind=12->0<=n.d0/\n.d0<=1000000:=fun n a e=>absurd e (h n a)
theorem noK {l:List aQ} (h:∀n∈l,¬KK n.kind):∀n∈l,n.kind=12->0<=n.d0/\n.d0<=1000000:=aF2 fun n a e=>h n a (by unfold KK;omega)
theorem aGa (h:eN C N M) {i:Nat} {a:Mc.Ask} (e:(i:Int)<C.aD):eN C (N+1) (M.call C i a).1:=by
 unfold cX.call;dsimp only;split;exact yR h e;split;exact h.mono (Nat.le_succ N);refine((h.dT (zH h.iZ (aF2 ?_))).oF (yr h.dG)).mono (Nat.le_succ N);intro n c;unfold Om at c;obtain⟨k,_,rfl⟩:=List.mem_map.1 c;show(13:Int)≠12;omega
theorem aE1 (h:eN C N M) {i:Nat} {g:Int} (a:(i:Int)<C.aD):eN C (N+1) (M.walk C i g).1:=by
 unfold cX.walk;dsimp only;split;exact h.mono (Nat.le_succ N);split;exact h.mono (Nat.le_succ N);refine((h.dT (zH h.iZ (aF2 ?_))).B6 (jk (h.uO i a))).mono (Nat.le_succ N);intro n c;rw[List.mem_singleton.1 c];show(6:Int)≠12;omega
theorem aEh {core:Int} {s:jJ} {l w:Int} {wr:Bool}:∀n∈(want C core s l w wr).2.1,¬KK n.kind:=by
 intro n a;unfold want at a;split at a;cases a;split at a;cases a;split at a;cases a;split at a;cases a;unfold A6 at a;split at a;simp only[mJ,List.nil_append,List.mem_singleton] at a;rw[a];unfold KK;grind;split at a;cases a;split at a;cases a;simp only[mJ,List.mem_append,List.mem_singleton] at a;rcases a with rfl|rfl;unfold KK;dsimp only;omega;unfold KK;grind
theorem aFo (h:eN C N M) {i:Nat} {l:Int} {wr:Bool} (a:(i:Int)<C.aD):eN C (N+1) (M.want C i l wr).1:=by
 unfold cX.want;dsimp only;split;exact h.mono (Nat.le_succ N);split;exact h.mono (Nat.le_succ N);exact((h.dT (zH h.iZ (noK aEh))).tA (jq (h.I2 i a))).mono (Nat.le_succ N)
theorem aDu (h:eN C N M) {i:Nat} {l a o:Int} {x:Acc} (c:(i:Int)<C.aD):eN C (N+1) (M.Ni C i l a o x).1:=by
 unfold cX.Ni;dsimp only;refine yR (h.tA ?_) c;have e:mF C (if x.read=true then tQ C (M.cC i) l a o else M.cC i):=by
  split;exact Pu (h.I2 i c);exact h.I2 i c
 split;exact X5 e;exact e
theorem vc (h:eN C N M) {i:Nat} {a:Acc} (c:(i:Int)<C.aD):eN C (N+1) (M.access C i a).1:=by
 unfold cX.access;split;exact yR h c;dsimp only;split;exact h.mono (Nat.le_succ N);split;exact aE1 h c;split;exact yR h c;split;exact aFo h c;exact aDu h c
theorem aEr (h:eN C N M) {a:Int}:eN C (N+1) (M.step C a).1:=by
 unfold cX.step;split;exact h.mono (Nat.le_succ N);rename_i e;have e:0<=a/\a<C.aD:=Decidable.not_not.1 e;have c:((a.toNat:Nat):Int)<C.aD:=by omega
 dsimp only;split;exact h.mono (Nat.le_succ N);split;exact h.mono (Nat.le_succ N);split;rename_i r f;exact(h.yB (yk (h.D7 _ c) f)).V1;split;exact aGa h c;split;exact vc h c;exact h.mono (Nat.le_succ N)
theorem Rw {r:Row} {line:Int} {d:Ln}:∀n∈(r.hU line d).2,¬KK n.kind:=by
 intro n a;unfold Row.hU at a;have e:∀s,(r.rB line s d).kind=8:=fun _=>rfl;unfold KK;grind
theorem Ju {line st:Int} {l:List Nat}:∀n∈hQ line st l,¬KK n.kind:=by
 intro n a;unfold hQ at a;obtain⟨k,_,rfl⟩:=List.mem_map.1 a;show ¬KK 11;unfold KK;omega
theorem aFl {r:Row} {line:Int} {m:Ln}:∀n∈(r.rest line m).2,¬KK n.kind:=by
 intro n a;unfold Row.rest at a;have c:= @Rw;grind
theorem pk {H:lB} {n:aQ}:∀x∈(gQ C H n).2.1,¬KK x.kind:=by
 intro x a;unfold gQ at a;split at a;cases a;split at a;unfold sQ.take at a;split at a;split at a<;>cases a;split at a;split at a;cases a;exact aFl x a;cases a;cases a
theorem aH0 {r:Row} {line:Int} {m:Ln} {n:aQ} {w:Int}:∀x∈(r.get line m n w).2,¬KK x.kind:=by
 intro x a;unfold Row.get at a;dsimp only at a;split at a;unfold Row.getM at a;split at a;exact Ju x a;exact Rw x a;unfold Row.j1 at a;split at a;exact Ju x a;exact Rw x a
theorem bu {H:lB} {l:Int} {j:Int->Int×Bool}:∀x∈(kR C H l j).2.1,¬KK x.kind:=by
 intro x a;unfold kR at a;split at a;unfold sQ.begin at a;split at a;cases a;split at a;cases a;dsimp only at a;unfold Row.begun at a;split at a;rw[List.mem_singleton.1 a];show ¬KK 10;unfold KK;omega;split at a;split at a;exact aH0 x a;rw[List.mem_singleton.1 a];show ¬KK 9;unfold KK;omega;split at a;cases a;exact Ju x a;cases a
theorem aCk {core:Int} {s:jJ} {n:aQ}:∀x∈(iS C core s n).2.1,¬KK x.kind:=by
 intro x a;have e:∀y,(nL core n y).kind=5:=fun y=>by unfold nL;split<;>rfl
 unfold iS wR Hq tM pI at a;repeat' split at a
 all_goals (unfold KK;grind)
theorem eN.take (h:eN C N M) (hC:C.Ok) (g:N<=2^29) {n:aQ} (c:ma C n):vM C M n:=by
 obtain⟨f,e⟩:=U2 c.uO;have a:((n.core.toNat:Nat):Int)<C.aD:=by omega
 exact⟨e,h.dG,h.home.h (by omega),h.I2 _ a,(h.uO _ a).len hC,(h.uO _ a).2,c.word⟩
theorem aBq (h:eN C N M) (hC:C.Ok) {n:aQ} (f:ma C n):eN C (N+2) (M.fT C n).1/\∀x∈(M.fT C n).2.1,x.kind=12->0<=x.d0/\x.d0<=1000000:=by
 obtain⟨j,k⟩:=U2 f.uO;have c:((n.core.toNat:Nat):Int)<C.aD:=by omega
 have q:=h.dG.len;have i:=hC.2.1;unfold cX.fT;split;exact⟨(h.sL (Nat.le_succ N) (qq hC h.home)).mono (Nat.le_succ _),noK pk⟩;split;refine⟨(h.tA (lj ?_ (h.I2 _ c))).mono (by omega),noK aCk⟩;intro g;have:=py f.uO g;omega;split;refine⟨h.mono (by omega),fun x a _=>?_⟩;rw[List.mem_singleton.1 a];exact xf (by omega) h.dG.own;split;refine⟨(h.B6 (mf hC (h.uO _ c))).mono (by omega),fun x a e=>?_⟩;dsimp only at a;split at a;cases a;rw[List.mem_singleton.1 a] at e;exact absurd e (by show(6:Int)≠12;omega);split;refine⟨(h.B6 (aB9 (h.uO _ c))).mono (by omega),fun x a e=>?_⟩;rw[List.mem_singleton.1 a] at e;exact absurd e (by show(7:Int)≠12;omega);split;refine⟨?_,fun x a _=>by cases a⟩;dsimp only;split;exact(h.oF (Hv h.dG)).sL (by omega) (Pd (Pd h.home));exact(h.oF (Hv h.dG)).mono (by omega);exact⟨h.mono (by omega),fun x a _=>by cases a⟩
theorem kj (h:eN C N M) (hC:C.Ok) {a b c:Int}:eN C (N+2) (M.tL C a b c).1:=by
 unfold cX.tL;dsimp only;split;exact h.mono (by omega);rename_i g;obtain⟨e,f⟩:=aBq h hC (Vc (a:=a) (b:=b) (c:=c) h.iZ (Decidable.not_not.1 g)).1;split;exact h.mono (by omega);split;exact h.mono (by omega);exact e.dT (zH (Wg h.iZ) f)
theorem aC4 (h:eN C N M) {a:Int}:eN C (N+2) (M.begin C a).1:=by
 unfold cX.begin;dsimp only;split;exact h.mono (by omega);split;exact h.mono (by omega);exact((h.dT (zH h.iZ (noK bu))).sL (Nat.le_succ N) (il h.home)).mono (by omega)
theorem vf (h:eN C N M) {a:Int}:eN C (N+2) (M.finish C a).1:=by
 obtain⟨c,e⟩:=Wf (g:=a) h.dG;unfold cX.finish;split;exact h.mono (by omega);split;exact h.mono (by omega);dsimp only;split;exact h.mono (by omega);rename_i u f;have i:=e u f;refine(yR (N:=N) ?_ (by omega)).mono (by omega);split;exact(h.oF c).sL (Nat.le_refl N) (iw h.home);exact h.oF c
theorem Pz (h:eN C N M) (hC:C.Ok) {d:Do}:eN C (N+2) (M.rL C d).1:=by
 unfold cX.rL;split;exact(aEr h).mono (by omega);split;exact kj h hC;split;exact aC4 h;split;exact vf h;exact h.mono (by omega)
end
end Go.Mc
section
open Go Go.Ab
attribute [local irreducible] bA Br ld1 rT sH A2 lH tD kC Nk fZ lT oX oU nW kS xH sY Ts Pe No M5 Qt Ns Ei Gm Sb jV nR qR iK copyV gZ vD Tg Tm E6 jX Kb Pq Tl mL pD uW vP Cl xS Tb qW qT jA eX cS bZ
namespace Go.Proofs.YtmhapehobfnoiaaGreatDoor
open Go Go.Ab Go.Hm Go.At
section
set_option maxRecDepth 100000
variable {G:Bg} {h:AH} {L L':List HP} {Q:Value->AH->Prop}
theorem yp {C:bQ} (hC:C.Ok) {mb l:Nat} {mem:Nat->Ln} (q:l<C.lines) (e:Hs G h (eM G C.lines mb C mem::L)):
  ∃(b o cap:Nat) (r w:Int) (b2 o2 cp:Nat) (H:HP),Hs G h (aE mb 0 (C.enc++[.slice (some ⟨b,o,none⟩) C.aK.toNat cap])::aE b (o+(l % C.aK.toNat)*3) [I r,I w,.slice (some ⟨b2,o2,none⟩) (gO C.lines C.aK.toNat (l % C.aK.toNat)) cp]::aE b2 (o2+l/C.aK.toNat*2) (mO (mem l))::H::L)/\
   ∀v g M,Hs G g (aE mb 0 (C.enc++[.slice (some ⟨b,o,none⟩) C.aK.toNat cap])::aE b (o+(l % C.aK.toNat)*3) [I r,I w,.slice (some ⟨b2,o2,none⟩) (gO C.lines C.aK.toNat (l % C.aK.toNat)) cp]::aE b2 (o2+l/C.aK.toNat*2) (mO v)::H::M)->Hs G g (eM G C.lines mb C (cB mem l v)::M):=by
 have hb:=bQ.bk hC
 obtain⟨b,o,cap,e⟩:=qJ e
 have e:=(e.front (dE C.aK.toNat fun i=>fB C.lines C.aK.toNat b (o+i*3) i mem)).kH (l % C.aK.toNat) (Nat.mod_lt _ hb.2.1)
 obtain⟨r,w,a,cp,e⟩:=uU e
 have j:=D1 hb.2.1 q
 obtain⟨b2,o2,rfl,H,e,f⟩:=Hs.ey (Iv (B:=C.aK.toNat) (i:=l % C.aK.toNat) (mem:=mem)) j (e.front (dI 2 68 a cp (gO C.lines C.aK.toNat (l % C.aK.toNat),(List.range (gO C.lines C.aK.toNat (l % C.aK.toNat))).flatMap (Mb C.aK.toNat (l % C.aK.toNat) mem))))
 rw[ct hb.2.1] at e
 refine⟨b,o,cap,r,w,b2,o2,cp,sp [H,sp (((List.range C.aK.toNat).erase (l % C.aK.toNat)).map fun i=>fB C.lines C.aK.toNat b (o+i*3) i mem),hole G 3 245 (some ⟨b,o,none⟩) cap C.aK.toNat b o],e.to,?_⟩
 intro v g M e
 have e:=(e.front (sp [H,sp (((List.range C.aK.toNat).erase (l % C.aK.toNat)).map fun i=>fB C.lines C.aK.toNat b (o+i*3) i mem),hole G 3 245 (some ⟨b,o,none⟩) cap C.aK.toNat b o])).yG
 have e:=f _ _ _ rfl rfl (e.bL (aE b2 (o2+l/C.aK.toNat*2) (mO v)) H)
 rw[H7 hb.2.1] at e
 have e:=nO (e.sg (b:=b) (o:=o+l % C.aK.toNat*3) (c:=[I r,I w,.slice (some ⟨b2,o2,none⟩) (gO C.lines C.aK.toNat (l % C.aK.toNat)) cp]) rfl)
 exact nT (b:=b) (o:=o) (cap:=cap) ((e.nQ (n:=C.aK.toNat) (i:=l % C.aK.toNat) (fun i=>fB C.lines C.aK.toNat b (o+i*3) i mem) (fun i=>fB C.lines C.aK.toNat b (o+i*3) i (cB mem l v)) (Nat.mod_lt _ hb.2.1) (fun i s k=>by simp only[fB,wj s k])).to)
theorem dp {C:bQ} (hC:C.Ok) {mb w:Nat} {mem:Nat->Ln} (j:Ob G 0 eY) (a:Hs G h (eM G C.lines mb C mem::L)) (s:w<C.lines*2)
  (q:∀(b2 o2:Nat) (H:HP) c,Hs G c (aE b2 o2 (mO (mem (w/2)))::H::L)->(∀v c M,Hs G c (aE b2 o2 (mO v)::H::M)->Hs G c (eM G C.lines mb C (cB mem (w/2) v)::M))->Q (.tuple ⟨[pt b2 o2 (0+w % 2*1),I 0]⟩) c):Cl Pr K 94 [pt mb 0 0,I w] h Q:=by
 have hb:=bQ.bk hC
 have f:w/2<C.lines:=by omega
 obtain⟨b,o,cap,r,k,b2,o2,i,H,a,e⟩:=yp hC f a
 refine cW (cK (bP (bW (aB (aA (an mb a (l:=C.enc) rfl rfl (Fz hC j a fun h a=>?_)))))))
 rw[aae]
 refine aG rfl (aG rfl (aG rfl (aX (aaa (bW ?_)))))
 rw[Int.toNat_natCast]
 refine rO hC j a f fun h a=>aG rfl (aG rfl (aG rfl (aX (aaa (aB (aA (aC (b:=b) (o:=o+(w/2) % C.aK.toNat*3) a rfl ?_)))))))
 have g:=D1 hb.2.1 f
 refine dO g (gF (by omega) ?_)
 refine q _ _ (sp [aE mb 0 (C.enc++[.slice (some ⟨b,o,none⟩) C.aK.toNat cap]),aE b (o+(w/2 % C.aK.toNat)*3) [I r,I k,.slice (some ⟨b2,o2,none⟩) (gO C.lines C.aK.toNat (w/2 % C.aK.toNat)) i],H]) _ a.to fun v c M a=>?_
 have a:=(a.front (sp [aE mb 0 (C.enc++[.slice (some ⟨b,o,none⟩) C.aK.toNat cap]),aE b (o+(w/2 % C.aK.toNat)*3) [I r,I k,.slice (some ⟨b2,o2,none⟩) (gO C.lines C.aK.toNat (w/2 % C.aK.toNat)) i],H])).yG
 exact e v c M a.to
theorem aHo (l:Ln) (w:Nat):(mO l)[0+w % 2*1]?=some (I (if w % 2=0 then l.1 else l.2)):=by
 have:w % 2=0\/w % 2=1:=by omega
 rcases this with h|h<;>rw[h]<;>rfl
theorem lg {C:bQ} (hC:C.Ok) {mb w:Nat} {mem:Nat->Ln} (k:Ob G 0 eY) (c:Hs G h L) [m:Has (eM G C.lines mb C) L mem L'] (i:w<C.lines*2)
  (j:∀f,Hs G f (eM G C.lines mb C mem::L')->Q (.tuple ⟨[I (O0 mem w),I 0]⟩) f):Cl Pr K 183 [pt mb 0 0,I w] h Q:=by
 refine cW (dp hC k (m.of c) i fun g q H h c a=>aG rfl (aG rfl (aX (aaa (aB (aC (b:=g) (o:=q) c (aHo _ w) ?_))))))
 have c:=a _ _ _ c
 rw[rV] at c
 have:=j _ c
 unfold O0 at this
 split at this
 .rename_i e;rw[aLy e];exact this
 .rename_i e;rw[aLx e];exact this
theorem Gh {C:bQ} (hC:C.Ok) {mb w:Nat} {v:Int} {mem:Nat->Ln} (q:Ob G 0 eY) (a:Hs G h L) [m:Has (eM G C.lines mb C) L mem L'] (k:w<C.lines*2)
  (i:∀g,Hs G g (eM G C.lines mb C (N9 mem w v)::L')->Q (I 0) g):Cl Pr K 40 [pt mb 0 0,I w,I v] h Q:=by
 refine cW (dp hC q (m.of a) k fun f j H h a c=>aG rfl (aG rfl (aX (aaa (bW (aB ?_))))))
 have e:w % 2=0\/w % 2=1:=by omega
 rcases e with e|e
 .rw[e];refine ay (b:=f) (o:=j) a fun h a=>?_;have a:=c (v,(mem (w/2)).2) _ _ a;have:=i _ (by unfold N9;rw[aLy e];exact a);exact this
 .rw[e];refine ay (b:=f) (o:=j) a fun h a=>?_;have a:=c ((mem (w/2)).1,v) _ _ a;have:=i _ (by unfold N9;rw[aab];exact a);exact this
end
end Go.Proofs.YtmhapehobfnoiaaGreatDoor
namespace Go.Proofs.YtmhapehobfnoiaaGreatDoor.A
open Go Go.Ab Go.Hm Go.At Go.Is
section
set_option maxRecDepth 100000
variable {G:Bg} {h:AH} {L L':List HP} {Q:Value->AH->Prop}
theorem U9 {v:Value} {a b:Int} {l:List Int} {e:TypeId} (z:l.length<1000) (k:∀q,Hs G q (yU G 1 e v (l.map fun x=>[I x])::L)->Q (.bool (within a b l)) q):
  ∀(f i:Nat) (h:AH),i+f=l.length->within a b l=within a b (l.drop i)->Hs G h (yU G 1 e v (l.map fun x=>[I x])::L)->Dd 46 1 [] Q [(I a),(I b),v,(I l.length),(I i)] h:=by
 intro f
 induction f with
 |zero=>
  intro i h u g j
  rw[List.drop_of_length_le (by omega)] at g
  refine bW (aI (aaa ?_))
  have:=k _ j
  rw[g] at this
  exact this
 |succ f y=>
  intro i h u g j
  obtain⟨x,w,t⟩:=lK (l:=l) (i:=i) (by omega)
  rw[t] at g
  have s:within a b (x::l.drop (i+1))=(decide (a<=x/\x<=b)&&within a b (l.drop (i+1))):=rfl
  rw[s] at g
  refine bW (aI (aad (bW (yY j (x:=[I x]) (by simp[w]) rfl (aI (aT (fun c=>?_) (fun c=>iM (aT (fun d=>?_) (fun d=>?_)))))))))
  .have:=k _ j;rw[g,decide_eq_false (by omega)] at this;exact this
  .have:=k _ j;rw[g,decide_eq_false (by omega)] at this;exact this
  .rw[decide_eq_true (by omega),Bool.true_and] at g;exact bW (aac (y (i+1) h (by omega) g j))
theorem Gk {v:Value} {a b:Int} {l:List Int} {e:TypeId} (j:l.length<1000) (g:Hs G h (yU G 1 e v (l.map fun x=>[I x])::L)) (i:∀f,Hs G f (yU G 1 e v (l.map fun x=>[I x])::L)->Q (.bool (within a b l)) f):Cl Pr K 46 [I a,I b,v] h Q:=by
 obtain⟨q,s,k⟩:=uS g;refine cW ?_;have c:=U9 (L:=L) (a:=a) (b:=b) j i l.length 0 h (by omega) rfl g;rw[k] at c ⊢;simp only[List.length_map] at c ⊢;exact bH c
theorem xK {g:Addr} {a b x:Int} {e:TypeId} (c:Hs G h (dI 1 e (some g) 1 (1,[I x])::L)) (i:∀f,Hs G f L->Q (.bool (decide (a<=x/\x<=b))) f):Cl Pr K 46 [I a,I b,.slice (some g) 1 1] h Q:=by
 have c:=vz (l:=[x].map fun x=>[I x]) (by simp) rfl rfl c;refine Gk (l:=[x]) (by simp) c fun f c=>?_;have:=i _ c.tail;rw[show within a b [x]=decide (a<=x/\x<=b) by simp[within]];exact this
end
section
set_option maxRecDepth 100000
variable {G:Bg} {h:AH} {L L':List HP} {Q:Value->AH->Prop}
theorem y4 {c w o t:Int} (f:Hs G h L) (e:∀k,Hs G k L->Q (.tuple ⟨[I (lA c w o t).1,.bool (lA c w o t).2.1,I (lA c w o t).2.2]⟩) k):Cl Pr K 263 [I c,I w,I o,I t] h Q:=by
 refine cW (aJ (c:=[I w]) rfl (dC f rfl rfl rfl fun a h f=>xK f fun h f=>bY (dY (aT (fun s=>?_) (fun s=>?_)))));rotate_left;have:=e _ f;unfold lA at this;rw[aae] at this;exact this;refine aJ (c:=[I o]) rfl (dC f rfl rfl rfl fun a h f=>xK f fun h f=>bY (dY (aT (fun u=>?_) (fun u=>?_))));rotate_left;have:=e _ f;unfold lA at this;rw[aae] at this;exact this;unfold lA at e;rw[aab] at e;refine bW (bG (aT (fun g=>?_) (fun i=>bW (bG (aT (fun g=>?_) (fun j=>bW (bG (aT (fun g=>?_) (fun q=>bW (bG (aT (fun g=>?_) (fun n4=>?_))))))))))));rw[aLy g] at e;refine bW (aX (aT (fun g1=>?_) (fun g1=>?_)));rw[aLy g1] at e;exact e _ f;rw[aLx g1] at e;refine bW (aX (aT (fun g2=>?_) (fun g2=>?_)));rw[aLy g2] at e;exact e _ f;rw[aLx g2] at e;refine bW (aJ (c:=[I t]) rfl (dC f rfl rfl rfl fun a h f=>xK f fun h f=>bY (dY (aT (fun g3=>?_) (fun g3=>?_)))));rw[aab] at e;exact e _ f;rw[aae] at e;exact e _ f;rw[aLx i,aLy g] at e;refine bW (bG (aT (fun g1=>?_) (fun g1=>?_)));rw[aLy g1] at e;exact e _ f;rw[aLx g1] at e;refine bW (aX (aT (fun g2=>aX (aT (fun g3=>?_) (fun g3=>?_))) (fun g2=>?_)));rw[aae] at e;exact e _ f;rw[aab] at e;exact e _ f;rw[aab] at e;exact e _ f;rw[aLx i,aLx j,aLy g] at e;refine bW (bG (aT (fun g1=>?_) (fun g1=>aX (aT (fun g2=>?_) (fun g2=>?_)))));rw[aae] at e;exact e _ f;rw[aae] at e;exact e _ f;rw[aab] at e;refine bW (aJ (c:=[I t]) rfl (dC f rfl rfl rfl fun a h f=>xK f fun h f=>bY (dY (aT (fun g3=>bG (aT (fun g4=>?_) (fun g4=>?_))) (fun g3=>?_)))));rw[aae] at e;exact e _ f;rw[aab] at e;exact e _ f;rw[aae] at e;exact e _ f;rw[aLx i,aLx j,aLx q,aLy g] at e;refine bW (bG (aT (fun g1=>?_) (fun g1=>?_)));rw[aLy g1] at e;exact e _ f;rw[aLx g1] at e;refine bW (aX (aT (fun g2=>?_) (fun g2=>?_)));rw[aLy g2] at e;exact e _ f;rw[aLx g2] at e;exact e _ f;rw[aLx i,aLx j,aLx q,aLx n4] at e;exact e _ f
def yL (p:List Ins):List Value:=p.flatMap Ins.enc
theorem zq {p:List Ins} {i:Nat} (c:i<p.length):((yL p).drop (i*4)).take 4=(p.getD i ⟨0,0,0,0⟩).enc:=by
 have a:=(vK (W:=4) (l:=p.map Ins.enc) (i:=i) (x:=(p.getD i ⟨0,0,0,0⟩).enc) (by simp[Ins.enc]) (by simp[List.getD_eq_getElem?_getD,List.getElem?_eq_getElem c])).1;rw[<-a];rfl
theorem aB7 {p:List Ins} {i:Nat} (e:i<p.length):(yL p)[i*4+0]?=some (I (p.getD i ⟨0,0,0,0⟩).op):=by
 have c:=zq e;have a:(((yL p).drop (i*4)).take 4)[0]?=some (I (p.getD i ⟨0,0,0,0⟩).op):=by rw[c];rfl
 rw[List.getElem?_take_of_lt (by omega),List.getElem?_drop] at a;exact a
theorem K8 {s:bE} {v:Value} {r:Int} (a:0<=r) (c:r<4):(s.core++[v])[0+0+0+r.toNat*1]?=some (I (s.dF r.toNat)):=by
 have:r=0\/r=1\/r=2\/r=3:=by omega
 rcases this with rfl|rfl|rfl|rfl<;>rfl
theorem so {s:bE} {v:Value} {r x:Int} (a:0<=r) (c:r<4):dT (s.core++[v]) (0+0+0+r.toNat*1) [I x]=(s.dJ r x).core++[v]:=by
 have:r=0\/r=1\/r=2\/r=3:=by omega
 rcases this with rfl|rfl|rfl|rfl<;>rfl
theorem Bz {s:bE} {v:Value} {b q:Nat} {r x:Int} {k:AH->Prop} (a:Hs G h L) [m:Has (aE b q) L (s.core++[v]) L'] (e:0<=r) (f:r<4) (g:∀c,Hs G c (aE b q ((s.dJ r x).core++[v])::L')->k c):bA (sH h 1 (pt b q (0+0+0+r.toNat*1)) (I x)) k:=by
 refine bK (b:=b) (o:=q) a rfl ?_ rfl rfl fun h a=>g h ?_;have:r=0\/r=1\/r=2\/r=3:=by omega
 rcases this with rfl|rfl|rfl|rfl<;>rfl;rw[so e f] at a;exact a
theorem Iq {s:bE} {b q c:Nat} {a:Option Addr} {at':Int} (k:0<=at') (f:Hs G h (aE b q (s.core++[.slice a s.prog.length c])::dI 4 76 a c (s.prog.length,yL s.prog)::L))
  (j:∀i,Hs G i (aE b q ((s.pA at').core++[.slice a s.prog.length c])::dI 4 76 a c (s.prog.length,yL s.prog)::L)->Q (.tuple ⟨[]⟩) i):Cl Pr K 50 [pt b q 0,I at'] h Q:=by
 refine cW (aB (aA (aA (ay f fun h f=>aB (aA (aC (b:=b) (o:=q) f rfl (bH (dV (aT (fun g=>?_) (fun g=>?_))))))))))
 .refine aB (aA (aA (ay (b:=b) (o:=q) f fun h f=>?_)));refine j _ ?_;have e:s.pA at'={s with at':=at',over:=true}:=by unfold bE.pA Dg;rw[aLy g]
  rw[e]
  exact f
 .obtain⟨n,rfl⟩:∃n:Nat,at'=n:=⟨at'.toNat,by omega⟩;refine aB (aA (aC (b:=b) (o:=q) f rfl (xg (W:=4) (e:=76) (cs:=yL s.prog) f (by omega) (aB7 (by omega)) (bG (aB (aA (aA (ay (b:=b) (o:=q) f fun h f=>?_))))))));refine j _ ?_;have e:s.pA n={s with at':=n,over:=decide ((s.prog.getD n ⟨0,0,0,0⟩).op=11)}:=by unfold bE.pA Dg;rw[aLx g];rfl
  rw[e]
  exact f
end
end Go.Proofs.YtmhapehobfnoiaaGreatDoor.A
namespace Go.Proofs.YtmhapehobfnoiaaGreatDoor
open Go Go.Ab Go.Hm Go.At Go.Mc
section
theorem qH {m:Mon} {g:Nat}:g∈m.running↔g<16/\(m.runs g).isSome:=by unfold Mon.running;simp[List.mem_filter]
set_option maxRecDepth 100000
variable {G:Bg} {h:AH} {L L' M:List HP} {Q:Value->AH->Prop} {C:bQ} {m:Mon} {p:Nat}
theorem Ad {t:Nat} {g:Int} (e:Hs G h L) [f:Has (gL t) L m.dD L'] (c:∀a,Hs G a (gL t m.dD::L')->Q (if m.has g then .tuple ⟨[.agg ⟨(m.wF g).enc⟩,I 0]⟩ else .tuple ⟨[.agg ⟨kX.enc⟩,I 10]⟩) a):Cl Pr K 55 [pt t 0 0,I g] h Q:=
 Pf e c
abbrev xm (C:bQ) (m:Mon) (p p2 f g p5:Nat) (a:Mc.Ask) (e:Nat->Value) (d l:Nat) (st:LoopState×Option Code) (b:Bool) (c:Int) (pr:Prop):HP:=
 sp [rN pr,fM Pr 204 (fQ 1018) 113 e d l st,sp [aE p2 0 [pt p 0 0],aE f 0 a.enc,aE g 0 [.bool b],aE p5 0 [I c]],fD C p m]
theorem bf {a:Mc.Ask} (hC:C.Ok) (hm:gX C m) (s:Hs G h L) [mm:Has (fD C p) L m L'] (B:∀T,Hs G T (fD C p (m.call C.aD a).1::L')->Q (.tuple ⟨[.bool (m.call C.aD a).2.1,I (m.call C.aD a).2.2]⟩) T):Cl Pr K 204 [pt p 0 0,.agg ⟨a.enc⟩] h Q:=by
 have hc:=hC.1;have μ:=hC.2.1;have κ:=hm.len;have s:=mm.of s;unfold Mon.call at B;refine cW (dL s fun z h s=>dL s fun u h s=>bN s fun w h s=>bN s fun y h s=>am z s rfl (cK (bP ?_)));have bad:∀{h:AH} {M:List HP} (e:Int),[Sub M (fD C p m::L')]->Hs G h (aE w 0 [.bool false]::aE y 0 [I 0]::M)->(∀T,Hs G T (fD C p m::L')->Q (.tuple ⟨[.bool false,I e]⟩) T)->
   bA (sH h 1 (pt w 0 0) (.bool false)) fun U=>bA (sH U 1 (pt y 0 0) (I e)) fun h6=>bA (bZ [] h6) fun h7=>bA (ld1 h7 (pt w 0 0)) fun v8=>bA (ld1 h7 (pt y 0 0)) fun v9=>Q (.tuple ⟨[v8,v9]⟩) h7:=by
  intro h M e _ s hq
  exact ax (b:=w) s fun h s=>ax (b:=y) s fun h s=>iT (am w s rfl (am y s rfl (hq _ s.to)))
 obtain⟨t,b,s⟩:=jP (s.front (fD C p m));have F:∀{h:AH} {M:List HP},Hs G h (aE p 0 [pt t 0 0,I C.aD,fS b]::gL t m.dD::iA b (fK m.runs)::M)->Hs G h (fD C p m::M):=fun s=>dR s;refine bW (aS s fun r1 h s=>aA (am u s rfl (aI (aT (fun h1=>?_) (fun h1=>?_)))));rw[aae] at B;have s:=F (s.cE (aE p 0 [pt t 0 0,I C.aD,fS b]) (gL t m.dD) (iA b (fK m.runs)));exact bad (M:=fD C p m::L') 1 s.to B;refine aA (am u s rfl (am z s rfl (aB (aA (am p s rfl (dV (aT (fun h2=>?_) (fun h2=>?_))))))));rw[aae] at B;have s:=F (s.cE (aE p 0 [pt t 0 0,I C.aD,fS b]) (gL t m.dD) (iA b (fK m.runs)));exact bad (M:=fD C p m::L') 1 s.to B;rw[aab] at B;refine bW (aS s fun r2 h s=>am z s rfl (aB (aA (am p s rfl (aA (am u s rfl (Ad (m:=m) s fun h s=>?_)))))));by_cases P:m.has a.cN;rotate_left;rw[aLx P];rw[aLy P] at B;refine aG rfl (aG rfl (kI (r:=r2) (i:=10) (n:=13) (D:=[]) s rfl rfl fun E h s=>ax (b:=E) s fun h s=>bV (aG rfl iN) (aX (aad ?_))));have s:=F (s.cE (aE p 0 [pt t 0 0,I C.aD,fS b]) (gL t m.dD) (iA b (fK m.runs)));exact bad (M:=fD C p m::L') 10 s.to B;rw[aLy P];rw[aLx (by simpa using P)] at B;have η:=hm.wF P;have α:0<=a.cN/\a.cN<C.bM:=by unfold Mon.has at P;omega
 refine aG rfl (aG rfl (kI (r:=r2) (i:=10) (n:=13) (D:=[]) s rfl rfl fun E h s=>ax (b:=E) s fun h s=>bV (aG rfl iN) (aX (aaa ?_))));have s:=F (s.cE (aE p 0 [pt t 0 0,I C.aD,fS b]) (gL t m.dD) (iA b (fK m.runs)));refine bW (am z s rfl (aA (am u s rfl (Lh (C:=C) (m:=m) s fun h s=>aX (aT (fun h3=>?_) (fun h3=>?_))))));rw[aLy h3] at B;exact bad (M:=fD C p m::L') 17 s.to B;rw[aLx h3] at B;refine bW (am z s rfl (Ce (C:=C) (m:=m) s fun q qa qc h s=>iI s fun d h s=>?_));intro e he;refine jL s fun l h s=>oB rfl ?_;have s:Hs G h (H.Nv 3 q qa qc (m.running.map fun k:Nat=>(k:Int))::xm C m p z u w y a e d l (.ready,none) false 0 (∀g∈([]:List Int),m.lQ a.core g.toNat=false)::sp [mk d (),aE E 0 (m.wF a.cN).enc]::L'):=by
  have s:=(s.bL (mk d ()) (aE E 0 (m.wF a.cN).enc)).yC;have s:=(s.gN (aE z 0 [pt p 0 0]) (aE u 0 a.enc) (aE w 0 [.bool false]) (aE y 0 [I 0])).E7;have s:=s.cE (fM Pr 204 (fQ 1018) 113 e d l (.ready,none)) (sp [aE z 0 [pt p 0 0],aE u 0 a.enc,aE w 0 [.bool false],aE y 0 [I 0]]) (fD C p m);have s:=Hs.E7 (Hs.Wm (p:=∀g∈([]:List Int),m.lQ a.core g.toNat=false) (by simp) s);exact s.to
 refine(H.Em (e:=3) (p:=q) (a:=qa) (c:=qc) (xs:=m.running.map fun k:Nat=>(k:Int)) (by have:=List.length_filter_le (fun g=>(m.runs g).isSome) (List.range 16);simp[Mon.running] at this ⊢;omega)).fold
  (X:=fun done=>xm C m p z u w y a e d l (.ready,none) false 0 (∀g∈done,m.lQ a.core g.toNat=false)) (Z:=fun _ x=>xm C m p z u w y a e d l (.done,some .ret) false 13 (x∈(m.running.map fun k:Nat=>(k:Int))/\m.lQ a.core x.toNat=true)) s ?_ ?_ ?_
 .intro done x h M hp s;obtain⟨R,s⟩:=hJ s;have s:=s.yG;obtain⟨k,V,rfl⟩:∃k∈m.running,(k:Int)=x:=by
   obtain⟨ys,ι⟩:=hp;have:x∈m.running.map fun k:Nat=>(k:Int):=by rw[<-ι];simp
   obtain⟨k,h1,h2⟩:=List.mem_map.1 this;exact⟨k,h1,h2⟩
  obtain⟨r,hr⟩:=Option.isSome_iff_exists.1 (qH.1 V).2;have θ:m.run (k:Int)=some r:=by unfold Mon.run;rw[aae];exact hr
  have s:=(s.front (sp [aE z 0 [pt p 0 0],aE u 0 a.enc,aE w 0 [.bool false],aE y 0 [I 0]])).Zp;refine rW (nX s) he (fG s fun h s=>aS s fun rr h s=>?_);obtain⟨t,b,s⟩:=jP (s.front (fD C p m));refine am z s rfl (aB (aA (am p s rfl (O4 (m:=m) s ?_))));rw[θ];refine Io (m:=nG r) rfl rfl (Io (m:=Ac r) rfl rfl (ic rfl (aA (am u s rfl (bG (aT (fun c1=>?_) (fun c1=>?_)))))));refine ax (b:=w) s fun h s=>ax (b:=y) s fun h s=>gK s fun h s=> .inr ⟨rfl,?_⟩;have s:=dR (s.cE (aE p 0 [pt t 0 0,I C.aD,fS b]) (gL t m.dD) (iA b (fK m.runs)));have s:=(s.gN (aE z 0 [pt p 0 0]) (aE u 0 a.enc) (aE w 0 [.bool false]) (aE y 0 [I 13])).E7;have s:=s.cE (fM Pr 204 (fQ 1018) 113 e d l (.done,some .ret)) (sp [aE z 0 [pt p 0 0],aE u 0 a.enc,aE w 0 [.bool false],aE y 0 [I 13]]) (fD C p m);refine(Hs.E7 (Hs.Wm (p:=((k:Int)∈(m.running.map fun k:Nat=>(k:Int))/\m.lQ a.core ((k:Int)).toNat=true)) ⟨List.mem_map.2 ⟨k,V,rfl⟩,?_⟩ s)).to;unfold Mon.lQ;rw[Int.toNat_natCast,hr];exact decide_eq_true c1
  .refine gK s fun h s=> .inl ⟨rfl,?_⟩;have s:=dR (s.cE (aE p 0 [pt t 0 0,I C.aD,fS b]) (gL t m.dD) (iA b (fK m.runs)));have s:=(s.gN (aE z 0 [pt p 0 0]) (aE u 0 a.enc) (aE w 0 [.bool false]) (aE y 0 [I 0])).E7;have s:=s.cE (fM Pr 204 (fQ 1018) 113 e d l (.ready,none)) (sp [aE z 0 [pt p 0 0],aE u 0 a.enc,aE w 0 [.bool false],aE y 0 [I 0]]) (fD C p m);refine(Hs.E7 (Hs.Wm (p:=∀g∈done++[((k:Nat):Int)],m.lQ a.core g.toNat=false) ?_ s)).to;intro g O;rcases List.mem_append.1 O with O|O;exact R g O;rw[List.mem_singleton.1 O,Int.toNat_natCast];unfold Mon.lQ;rw[hr];exact decide_eq_false c1
 .intro v h s;obtain⟨R,s⟩:=hJ (s.front (xm C m p z u w y a e d l (.ready,none) false 0 (∀g∈m.running.map (fun k:Nat=>(k:Int)),m.lQ a.core g.toNat=false)));have s:=s.yG;have ζ:m.calls a.core=false:=by
   unfold Mon.calls;rw[List.any_eq_false];intro g O;have:=R g (List.mem_map.2 ⟨g,O,rfl⟩);rw[Int.toNat_natCast] at this;rw[this];simp
  rw[aLx (by rw[ζ];simp)] at B;have s:=(s.front (sp [aE z 0 [pt p 0 0],aE u 0 a.enc,aE w 0 [.bool false],aE y 0 [I 0]])).Zp;have s:=(s.front (sp [mk d (),aE E 0 (m.wF a.cN).enc])).Bn;refine jN s fun h s=>jR ?_;refine aA (am u s rfl (aA (am u s rfl (aA (am E s rfl (aA (am u s rfl (A.y4 s fun h s=>?_))))))));dsimp only at B;have γ:0<=(lA a.call a.world (m.wF a.cN).owner a.to).1/\(lA a.call a.world (m.wF a.cN).owner a.to).1<=4:=by
   unfold lA;repeat' split
   all_goals first|omega|(simp only[];omega)
  generalize lA a.call a.world (m.wF a.cN).owner a.to=jj at B γ ⊢;refine aG rfl (aG rfl (aG rfl (aX (aT (fun U=>?_) (fun U=>?_)))));rw[aLy U] at B;refine ax (b:=w) s fun h s=>ax (b:=y) s fun h s=>jW s fun h s=>iT (am w s rfl (am y s rfl (B _ s.to)));rw[aLx U] at B;obtain⟨t,b,s⟩:=jP (s.front (fD C p m));refine bW (aS s fun rr h s=>am z s rfl (aB (aA (am p s rfl (aA (am u s rfl (aA (am E s rfl (aJ (c:=(⟨(m.wF a.cN).owner,true⟩:iB).enc) rfl ?_)))))))));refine Fw (x:=⟨(m.wF a.cN).owner,true⟩) s fun h s=>?_;have J:(0<=a.cN/\a.cN<m.dD.length)/\(0<=(m.wF a.cN).owner/\(m.wF a.cN).owner<=4):=⟨P,η⟩;rw[aLy J] at s;rw[aLy J];refine aX (aaa (bW (an u s (l:=a.enc) rfl rfl (aJ (c:=[I a.core,I a.world,I a.call,I a.cN,I a.to,I jj.1,.bool jj.2.1]) rfl (aJ (c:=(⟨a.core,a.world,a.call,a.cN,a.to,jj.1,jj.2.1,1,fun _=>false⟩:Mc.jH).enc) rfl (bN s fun Y h s=>ax (b:=Y) s fun h s=>am z s rfl (aB (aA (am p s rfl ?_)))))))));have loop:∀(k i:Nat) (h:AH),i+k=C.aD.toNat->Hs G h (aE Y 0 (⟨a.core,a.world,a.call,a.cN,a.to,jj.1,jj.2.1,1,fun j=>decide (j<i)⟩:Mc.jH).enc::aE p 0 [pt t 0 0,I C.aD,fS b]::gL t (m.dD.set a.cN.toNat ⟨(m.wF a.cN).owner,true⟩)::iA b (fK m.runs)::aE z 0 [pt p 0 0]::aE u 0 a.enc::aE w 0 [.bool false]::aE y 0 [I 0]::mk d ()::L')->
    Dd 204 8 [d] Q [(pt z 0 0),(pt u 0 0),(pt w 0 0),(pt y 0 0),(pt Y 0 0),(I C.aD),(I i)] h:=by
   intro k
   induction k with
   |zero=>
    intro i h hi s
    refine bW (aI (aaa (bW (aS s fun rr h s=>am z s rfl (aB (aA (am p s rfl (aA (am u s rfl (an Y s (l:=(⟨a.core,a.world,a.call,a.cN,a.to,jj.1,jj.2.1,1,fun j=>decide (j<i)⟩:Mc.jH).enc) rfl rfl ?_))))))))))
    obtain⟨g,O⟩:=Int.eq_ofNat_of_zero_le α.1
    rw[show(a.cN)=((g:Nat):Int) from O]
    refine S1 s (by omega) fun h s=>?_
    rw[<-O] at s
    refine ax (b:=w) s fun h s=>ax (b:=y) s fun h s=>jW s fun h s=>iT (am w s rfl (am y s rfl (B _ ?_)))
    have hw:(⟨a.core,a.world,a.call,a.cN,a.to,jj.1,jj.2.1,1,fun j=>decide (j<i)⟩:Mc.jH)=a.run C.aD jj:=by
     unfold Ask.run;congr 1;funext j;exact decide_eq_decide.2 (by omega)
    have e1:=Ga (f:=m.runs) (g:=g) (x:=some (a.run C.aD jj))
    rw[Option.map_some] at e1
    have s:=s.cE (aE p 0 [pt t 0 0,I C.aD,fS b]) (gL t (m.dD.set a.cN.toNat ⟨(m.wF a.cN).owner,true⟩)) (iA b (Ja (fK m.runs) g (some (.agg ⟨(⟨a.core,a.world,a.call,a.cN,a.to,jj.1,jj.2.1,1,fun j=>decide (j<i)⟩:Mc.jH).enc⟩))))
    rw[hw,e1] at s
    have β:g=a.cN.toNat:=by omega
    rw[β] at s
    exact(dR (m:=(m.kh a.cN.toNat ⟨(m.wF a.cN).owner,true⟩).dJ a.cN.toNat (some (a.run C.aD jj))) s).to
   |succ k ih=>
    intro i h hi s
    refine bW (aI (aad (bW (aA (gF (by omega) ?_)))))
    have hl:(⟨a.core,a.world,a.call,a.cN,a.to,jj.1,jj.2.1,1,fun j=>decide (j<i)⟩:Mc.jH).enc.length=12:=rfl
    refine bK (b:=Y) (o:=0) s rfl (by rw[hl];exact Nat.ble_eq_true_of_le (by simp;omega)) rfl rfl fun h s=>aac (ih (i+1) h (by omega) ?_)
    have e:dT (⟨a.core,a.world,a.call,a.cN,a.to,jj.1,jj.2.1,1,fun j=>decide (j<i)⟩:Mc.jH).enc (0+8+i*1) [.bool true]=(⟨a.core,a.world,a.call,a.cN,a.to,jj.1,jj.2.1,1,fun j=>decide (j<i+1)⟩:Mc.jH).enc:=by
     have:i=0\/i=1\/i=2\/i=3:=by omega
     rcases this with rfl|rfl|rfl|rfl<;>rfl
    rw[e] at s
    exact s.to
  refine loop C.aD.toNat 0 h (by omega) ?_;have e:(⟨a.core,a.world,a.call,a.cN,a.to,jj.1,jj.2.1,1,fun _=>false⟩:Mc.jH).enc=(⟨a.core,a.world,a.call,a.cN,a.to,jj.1,jj.2.1,1,fun j=>decide (j<0)⟩:Mc.jH).enc:=rfl;rw[e] at s;exact s.to
 .intro done x v h hp s;obtain⟨R,s⟩:=hJ (s.front (xm C m p z u w y a e d l (.done,some .ret) false 13 (x∈(m.running.map fun k:Nat=>(k:Int))/\m.lQ a.core x.toNat=true)));have s:=s.yG;have W:m.calls a.core=true:=by
   unfold Mon.calls;rw[List.any_eq_true];obtain⟨k,δ,ε⟩:=List.mem_map.1 R.1;refine⟨k,δ,?_⟩;have:=R.2;rw[<-ε,Int.toNat_natCast] at this;exact this
  rw[aLy W] at B;have s:=(s.front (sp [aE z 0 [pt p 0 0],aE u 0 a.enc,aE w 0 [.bool false],aE y 0 [I 13]])).Zp;have s:=(s.front (sp [mk d (),aE E 0 (m.wF a.cN).enc])).Bn;refine Kt s fun h s=>um (jW s fun h s=>iT (am w s rfl (am y s rfl (B _ s.to))))
end
end Go.Proofs.YtmhapehobfnoiaaGreatDoor
namespace Go.Proofs.YtmhapehobfnoiaaGreatDoor.A
open Go Go.Ab Go.Hm Go.At Go.Is
section
set_option maxRecDepth 100000
variable {G:Bg} {h:AH} {L L':List HP} {Q:Value->AH->Prop}
def uu (mem:Nat->Ln) (done:List Nat):Nat->Ln:=done.foldl (fun m l=>cB m l (0,0)) mem
abbrev scX (G:Bg) (C:bQ) (mb p2:Nat) (mem:Nat->Ln) (e:Nat->Value) (d l:Nat) (done:List Nat):HP:=sp [fM Pr 173 (fQ 122) 34 e d l (.ready,none),aE p2 0 [pt mb 0 0],eM G C.lines mb C (uu mem done)]
theorem qu {C:bQ} (hC:C.Ok) {mb g:Nat} {mem:Nat->Ln} (s:Ob G 0 eY) (a:Hs G h L) [m:Has (eM G C.lines mb C) L mem L'] (z:(g:Int)<C.bM)
  (B:∀v k,Hs G k (eM G C.lines mb C (Bk mem g)::L')->Q v k):Cl Pr K 173 [pt mb 0 0,I g] h Q:=by
 have hb:C.bM<=16:=hC.2.1.2
 have D:=bQ.eP hC
 have a:=m.of a
 refine cW (dL a fun f h a=>bN a fun i h a=>am f a rfl (cK (bP (bW (aI (aaa ?_))))))
 obtain⟨b,o,cap,a⟩:=qJ (a.front (eM G C.lines mb C mem))
 refine am f a rfl (aB (aA (aA (am mb a rfl (dV (aaa (bW ?_)))))))
 refine am f a rfl (aB (aA (an mb a (l:=C.enc) rfl rfl (C2 a fun p q h a=>iI a fun d h a=>?_))))
 have a:=Ji C.lines mb C mem b o cap a
 intro e A
 refine jL a fun l h a=>oB rfl ?_
 have a:Hs G h (sp [aE p 0 C.enc,aE q 0 [I g]]::scX G C mb f mem e d l []::sp [aE i 0 [I 0],mk d ()]::L'):=by
  have a:=a.cE (fM Pr 173 (fQ 122) 34 e d l (.ready,none)) (aE f 0 [pt mb 0 0]) (eM G C.lines mb C mem);have a:Hs G h (scX G C mb f mem e d l []::_):=a.M4;have a:=(a.bL (aE i 0 [I 0]) (mk d ())).yC;exact a.cE (sp [aE p 0 C.enc,aE q 0 [I g]]) (scX G C mb f mem e d l []) (sp [aE i 0 [I 0],mk d ()])
 refine(F6 (p:=p) (q:=q) hC z s).fold (X:=scX G C mb f mem e d l) (Z:=fun _ _=>rN False) a ?_ ?_ ?_
 .intro done y h M t a;have E:y<C.lines:=by
   obtain⟨F,j⟩:=t;have:y∈[g*2,g*2+1]:=by rw[<-j];simp
   simp at this;omega
  have a:=a.yG
  refine rW (nX a) A (fG a fun h a=>am f a rfl (aJ (c:=mO (0,0)) rfl (Dz hC s a E fun h a=>aX (aaa ?_))))
  refine gK a fun h a=> .inl ⟨rfl,Hs.M4 ?_⟩
  have u:uu mem (done++[y])=cB (uu mem done) y (0,0):=by unfold uu;rw[List.foldl_append];rfl
  rw[u]
  exact a.to
 .intro v h a;have a:=(a.front (scX G C mb f mem e d l [g*2,g*2+1])).yG;refine jN a fun h a=>jR ?_;have a:=(a.front (sp [aE i 0 [I 0],mk d ()])).Bn;refine ax (b:=i) (o:=0) a fun h a=>jW a fun h a=>iT (am i a rfl (B _ _ ?_));have w:uu mem [g*2,g*2+1]=Bk mem g:=rfl;rw[w] at a;exact a.to
 .intro done y v h t a;exact(a.front (rN False)).To.1.elim
abbrev yj (pm:Nat) (C:bQ) (v:Value) (a:Option Addr) (n c mb:Nat):HP:=aE pm 0 (C.enc++[v,.slice a n c,pt mb 0 0])
theorem aG8 {o:List Int} {g:Nat} (h:g<o.length):(o.map I)[g]?=some (I (o.getD g 0)):=by
 simp[List.getD_eq_getElem?_getD,List.getElem?_eq_getElem h]
theorem aBd {m:AM} (hC:m.cfg.Ok) (s:(m.eG.length:Int)=m.cfg.bM) {pm mb c:Nat} {a:Option Addr} {v:Value} {w x:Int} (k:Ob G 0 eY)
  (f:Hs G h (yj pm m.cfg v a m.eG.length c mb::dI 1 3 a c (m.eG.length,m.eG.map I)::L))
  (g:∀j,Hs G j (yj pm m.cfg v a m.eG.length c mb::dI 1 3 a c (m.eG.length,m.eG.map I)::L)->Q (.bool (m.may w x)) j):Cl Pr K 299 [pt pm 0 0,I w,I x] h Q:=by
 have q:=bQ.eP hC
 unfold AM.may at g
 refine cW (aB (aA (an pm f (l:=m.cfg.enc) rfl rfl (Fz hC k f fun h f=>?_))))
 by_cases i:0<=x/\x<m.cfg.lines*2
 .rw[aLy i] at g ⊢;refine aG rfl (aG rfl (aG rfl (aX (aaa (bW (aB (aA (an pm f (l:=m.cfg.enc) rfl rfl (X6 hC (by omega) k f fun h f=>?_)))))))));refine aG rfl (aG rfl (bG (aad (aB (aA (am pm f rfl (zn (e:=3) (cs:=m.eG.map I) f (aG8 (by omega)) (Ss ?_))))))));have:=g _ f;rw[show x.toNat/4=x.toNat/2/2 by omega] at this;exact this
 .rw[aLx i] at g ⊢;exact aG rfl (aG rfl (aG rfl (aX (aad (g _ f)))))
end
section
set_option maxRecDepth 100000
variable {G:Bg} {h:AH} {L L':List HP} {Q:Value->AH->Prop}
theorem jn {m:AM} {w x:Int} (h:m.may w x=true):0<=x/\x<m.cfg.lines*2:=by
 unfold AM.may at h;split at h;assumption;cases h
theorem Ou {m:AM} (hC:m.cfg.Ok) (A:(m.eG.length:Int)=m.cfg.bM) {pm mb c b q i:Nat} {a:Option Addr} {v pv:Value} {x:Ins} (B:x.op=3\/x.op=4\/x.op=5) (g:0<=x.a/\x.a<4) (hb:0<=x.b/\x.b<4) (u:Ob G 0 eY)
  (f:Hs G h (yj pm m.cfg v a m.eG.length c mb::dI 1 3 a c (m.eG.length,m.eG.map I)::eM G m.cfg.lines mb m.cfg m.mem::aE b q ((m.aR i).core++[pv])::L))
  (j:∀z,Hs G z (yj pm m.cfg v a m.eG.length c mb::dI 1 3 a c (m.eG.length,m.eG.map I)::eM G m.cfg.lines mb m.cfg (m.access i x).1.mem::aE b q (((m.access i x).1.aR i).core++[pv])::L)->Q (.tuple ⟨[I (m.access i x).2.1,I (m.access i x).2.2]⟩) z):Cl Pr K 246 [pt pm 0 0,pt b q 0,.agg ⟨x.enc⟩] h Q:=by
 refine cW (dL f fun k h f=>aS f fun t h f=>?_)
 refine aA (am k f rfl (aB (aA (aA (fI hb.1 hb.2 (aC (b:=b) (o:=q) f (K8 hb.1 hb.2) (aA (am k f rfl (bG ?_)))))))))
 have go:Dd 246 3 [] Q [(pt pm 0 0),(pt b q 0),(pt k 0 0),(I ((m.aR i).dF x.b.toNat))] h:=by
  unfold AM.access at j;refine bW (aB (aA (aA (aC (b:=b) (o:=q) f rfl ?_))));refine aBd (a:=a) (c:=c) (mb:=mb) (v:=v) hC A u (f.bL (yj pm m.cfg v a m.eG.length c mb) (dI 1 3 a c (m.eG.length,m.eG.map I))) fun h f=>bY (dY (dH (fun s=>?_) (fun s=>?_)));rotate_left;rw[aLx (by simp[s])] at j;exact j _ f.to;rw[aLy s] at j;have E:=jn s;generalize D:(m.aR i).dF x.b.toNat=W at*;obtain⟨w,rfl⟩:∃w:Nat,W=w:=⟨W.toNat,by omega⟩;simp only[Int.toNat_natCast] at j;refine bW (aB (aA (am pm f rfl ?_)));refine lg hC u f (by omega) fun h f=>aG rfl (aG rfl (aX (aaa (bW (aA (am k f rfl (aX (aT (fun y=>?_) (fun y=>?_)))))))));rw[aLx y] at j;refine bW (aS f fun t h f=>aB (aA (am pm f rfl (aA (am k f rfl (aB (aA (aA (fI g.1 g.2 (aC (b:=b) (o:=q) f (K8 g.1 g.2) ?_))))))))));refine Gh hC u f (by omega) fun h f=>aA (am k f rfl (bG (aT (fun c2=>?_) (fun c2=>?_))));rw[aLy c2] at j;refine bW (aS f fun t h f=>aA (am k f rfl (aB (aA (aA (fI g.1 g.2 (aC (b:=b) (o:=q) f (K8 g.1 g.2) (j _ ?_))))))));simp only[AM.oF];exact f.to;rw[aLx c2] at j;refine bW (aS f fun t h f=>aA (am k f rfl (aB (aA (aA (fI g.1 g.2 (Bz f g.1 g.2 fun h f=>?_)))))));refine j _ ?_;simp only[AM.oF,AM.yB,gP];exact f.to;rw[aae] at j;refine bW (aA (am k f rfl (bG (aaa ?_))));refine bW (aS f fun t h f=>aA (am k f rfl (aB (aA (aA (fI g.1 g.2 (Bz f g.1 g.2 fun h f=>?_)))))));refine j _ ?_;simp only[AM.yB,gP];exact f.to
 rcases B with e|e|e
 .refine aad (bW ?_);rw[decide_eq_true (by omega)];exact dN go
 .refine aaa (bW (bG (aad (bW ?_))));rw[decide_eq_true (by omega)];exact dN go
 .exact aaa (bW (bG (aaa (bW (bG (aad go))))))
end
section
set_option maxRecDepth 100000
variable {G:Bg} {h:AH} {L L':List HP} {Q:Value->AH->Prop}
def xP (b o:Nat) (s:bE):HP:=qV fun x:Option Addr×Nat=>sp [aE b o (s.core++[.slice x.1 s.prog.length x.2]),dI 4 76 x.1 x.2 (s.prog.length,yL s.prog)]
theorem Zt {b o c:Nat} {a:Option Addr} {s:bE} (e:Hs G h (aE b o (s.core++[.slice a s.prog.length c])::dI 4 76 a c (s.prog.length,yL s.prog)::L)):Hs G h (xP b o s::L):=
 Hs.oZ (A:=fun x:Option Addr×Nat=>sp [aE b o (s.core++[.slice x.1 s.prog.length x.2]),dI 4 76 x.1 x.2 (s.prog.length,yL s.prog)]) (a,c) (Hs.pack (A:=[_,_]) e)
structure AtA where
 b:Nat
 o:Nat
 cap:Nat
 a:Option Addr
 c:Nat
 mb:Nat
def atL (G:Bg) (pm:Nat) (m:AM) (x:AtA):List HP:=[yj pm m.cfg (.slice (some ⟨x.b,x.o,none⟩) m.cfg.aD.toNat x.cap) x.a m.eG.length x.c x.mb,dI 1 3 x.a x.c (m.eG.length,m.eG.map I),eM G m.cfg.lines x.mb m.cfg m.mem,
  hole G 8 127 (some ⟨x.b,x.o,none⟩) x.cap m.cfg.aD.toNat x.b x.o,dE m.cfg.aD.toNat fun i=>xP x.b (x.o+i*8) (m.aR i)]
def aGx (G:Bg) (pm:Nat) (m:AM):HP:=qV fun x:AtA=>sp (atL G pm m x)
theorem ji {pm:Nat} {m:AM} {b o cap c mb:Nat} {a:Option Addr} (e:Hs G h (yj pm m.cfg (.slice (some ⟨b,o,none⟩) m.cfg.aD.toNat cap) a m.eG.length c mb::dI 1 3 a c (m.eG.length,m.eG.map I)::eM G m.cfg.lines mb m.cfg m.mem::
  hole G 8 127 (some ⟨b,o,none⟩) cap m.cfg.aD.toNat b o::dE m.cfg.aD.toNat (fun i=>xP b (o+i*8) (m.aR i))::L)):Hs G h (aGx G pm m::L):=
 Hs.oZ (A:=fun x:AtA=>sp (atL G pm m x)) ⟨b,o,cap,a,c,mb⟩ (Hs.pack (A:=atL G pm m ⟨b,o,cap,a,c,mb⟩) e)
end
section
set_option maxRecDepth 100000
variable {G:Bg} {h:AH} {L L':List HP} {Q:Value->AH->Prop}
end
section
set_option maxRecDepth 100000
variable {G:Bg} {h:AH} {L L':List HP} {Q:Value->AH->Prop}
theorem aE2 {n c:Nat} {a:Option Addr} {cs:List Value} (k:n<=100) (j:Hs G h L) [m:Has (dI 2 68 a c) L (n,cs) L'] (i:∀e f g,Hs G g (dI 2 68 e f (n,cs)::dI 2 68 a c (n,cs)::L')->Q (.slice e n f) g):Cl Pr K 176 [.slice a n c] h Q:=
 cW (vW (bytes:=16) j (by omega) i)
theorem aG2 {n c:Nat} {a:Option Addr} {cs:List Value} (k:n<=100) (j:Hs G h L) [m:Has (dI 3 245 a c) L (n,cs) L'] (i:∀e f g,Hs G g (dI 3 245 e f (n,cs)::dI 3 245 a c (n,cs)::L')->Q (.slice e n f) g):Cl Pr K 175 [.slice a n c] h Q:=
 cW (vW (bytes:=40) j (by omega) i)
theorem aAw {v:Value} {l:List (List Value)} {e:TypeId} (j:l.length<=100) (hc:l.flatten.all eK=true) (i:Hs G h (yU G 1 e v l::L)) (g:∀a c f,Hs G f (dI 1 3 a c (l.length,l.flatten)::yU G 1 e v l::L)->Q (.slice a l.length c) f):Cl Pr K 48 [v] h Q:=
 cW (Kq (bytes:=8) i (by decide) rfl hc (by omega) g)
theorem aA8 {v:Value} {l:List (List Value)} {e:TypeId} (j:l.length<=100) (hc:l.flatten.all eK=true) (i:Hs G h (yU G 4 e v l::L)) (g:∀a c f,Hs G f (dI 4 76 a c (l.length,l.flatten)::yU G 4 e v l::L)->Q (.slice a l.length c) f):Cl Pr K 49 [v] h Q:=
 cW (Kq (bytes:=32) i (by decide) rfl hc (by omega) g)
def Fq (n B:Nat) (i:Nat) (x:BkA):List Value:=[I x.r,I x.w,.slice x.a (gO n B i) x.cap]
def ij (n B:Nat) (mem:Nat->Ln) (i:Nat) (x:BkA):HP:=dI 2 68 x.a x.cap (gO n B i,(List.range (gO n B i)).flatMap (Mb B i mem))
theorem X8 {n B p b o cap:Nat} {C:bQ} {mem:Nat->Ln} {f:Nat->BkA} (hB:B<=4) (K:n<=32) (E:∀u,Hs G u (aE p 0 (C.enc++[.slice (some ⟨b,o,none⟩) B cap])::dE B (fun i=>fB n B b (o+i*3) i mem)::dE B (fun i=>ij n B mem i (f i))::L)->Q (pt p 0 0) u):
  ∀(r i:Nat) (h:AH) (_M:List HP),i+r=B->Hs G h (aE p 0 (C.enc++[.slice (some ⟨b,o,none⟩) B cap])::dE B (fun j=>if j<i then fB n B b (o+j*3) j mem else aE b (o+j*3) (Fq n B j (f j)))::dE B (fun i=>ij n B mem i (f i))::L)->
  Dd 121 2 [] Q [(pt p 0 0),(I B),(I i)] h:=by
 intro r
 induction r with
 |zero=>
  intro i h M A a
  obtain rfl:i=B:=by omega
  refine bW (aI (aaa (E _ ?_)))
  have a:=a.front (dE i fun j=>if j<i then fB n i b (o+j*3) j mem else aE b (o+j*3) (Fq n i j (f j)))
  have a:=rY (g:=fun j=>fB n i b (o+j*3) j mem) (fun j D=>by rw[aLy D]) a
  exact a.cE (aE p 0 (C.enc++[.slice (some ⟨b,o,none⟩) i cap])) (dE i fun j=>fB n i b (o+j*3) j mem) (dE i fun j=>ij n i mem j (f j))
 |succ r J=>
  intro i h M A a
  have k:i<B:=by omega
  have z:=dz (n:=n) (B:=B) (i:=i) (by omega)
  refine bW (aI (aad (bW (aS a fun O h a=>?_))))
  have a:=(a.front (dE B fun j=>if j<i then fB n B b (o+j*3) j mem else aE b (o+j*3) (Fq n B j (f j)))).kH i k
  simp only[Nat.lt_irrefl,if_false] at a
  have a:=(a.front (dE B fun j=>ij n B mem j (f j))).kH i k
  refine aB (aA (am p a rfl (aB (aA (am p a rfl (dO k (aA (aC (b:=b) (o:=o+i*3) a rfl ?_))))))))
  have a:Hs G h (dI 2 68 (f i).a (f i).cap (gO n B i,(List.range (gO n B i)).flatMap (Mb B i mem))::_):=a
  refine aE2 (by omega) a fun s t h a=>?_
  refine dO k (aA (ay (b:=b) (o:=o+i*3) a fun y q=>?_))
  refine bV bX (bV (aB bX) (bV (aA bX) (bV (am p a rfl Hr) (bV iN (aac ?_)))))
  refine J (i+1) y [] (by omega) ?_
  have q:=q.sg (b:=b) (o:=o+i*3) (c:=[I (f i).r,I (f i).w,.slice s (gO n B i) t]) rfl
  have e:=nO (b:=b) (o:=o+i*3) (q.bL (aE b (o+i*3) [I (f i).r,I (f i).w,.slice s (gO n B i) t]) (dI 2 68 s t (gO n B i,(List.range (gO n B i)).flatMap (Mb B i mem))))
  have v:fB n B b (o+i*3) i mem=(fun j=>if j<i+1 then fB n B b (o+j*3) j mem else aE b (o+j*3) (Fq n B j (f j))) i:=by simp only[Nat.lt_succ_self,if_true]
  rw[v] at e
  have e:=e.nQ (n:=B) (i:=i) (fun j=>if j<i then fB n B b (o+j*3) j mem else aE b (o+j*3) (Fq n B j (f j))) (fun j=>if j<i+1 then fB n B b (o+j*3) j mem else aE b (o+j*3) (Fq n B j (f j))) k (fun j _ F=>by
   have:(j<i+1)=(j<i):=propext ⟨fun h=>by omega,fun h=>by omega⟩;simp only[this])
  have w:(dI 2 68 (f i).a (f i).cap (gO n B i,(List.range (gO n B i)).flatMap (Mb B i mem)))=(fun j=>ij n B mem j (f j)) i:=rfl
  rw[w] at e
  have e:=e.nQ (n:=B) (i:=i) (fun j=>ij n B mem j (f j)) (fun j=>ij n B mem j (f j)) k (fun _ _ _=>rfl)
  exact e.to
theorem az {C:bQ} (hC:C.Ok) {mb:Nat} {mem:Nat->Ln} (a:Hs G h L) [m:Has (eM G C.lines mb C) L mem L'] (u:∀q t,Hs G t (eM G C.lines q C mem::eM G C.lines mb C mem::L')->Q (pt q 0 0) t):Cl Pr K 121 [pt mb 0 0] h Q:=by
 have hb:=bQ.bk hC;have s:=bQ.eP hC;obtain⟨b,o,cap,a⟩:=qJ (m.of a);refine cW (cK (bP (bW (aS a fun w h a=>?_))));have k:Hs G h (dE C.aK.toNat (fun i=>qV fun x=>sp [aE b (o+i*3) (Fq C.lines C.aK.toNat i x),ij C.lines C.aK.toNat mem i x])::hole G 3 245 (some ⟨b,o,none⟩) cap C.aK.toNat b o::_):=a.bL (dE C.aK.toNat fun i=>fB C.lines C.aK.toNat b (o+i*3) i mem) (hole G 3 245 (some ⟨b,o,none⟩) cap C.aK.toNat b o);obtain⟨f,a⟩:=Hs.fk (W:=3) (c:=Fq C.lines C.aK.toNat) (d:=ij C.lines C.aK.toNat mem) (⟨0,0,none,0⟩:BkA) (fun _ _=>rfl) (fun _ _=>rfl) (by decide) hb.2.1 k;clear k;refine aB (aA (an mb a (l:=C.enc) rfl rfl (aB (aA (am mb a rfl ?_)))));refine aG2 (by omega) a fun v j h a=>?_;obtain⟨e,g,rfl,a⟩:=Hs.Yx (W:=3) (c:=fun i=>Fq C.lines C.aK.toNat i (f i)) (fun _=>rfl) hb.2.1 a;refine aJ (c:=C.enc++[.slice (some ⟨e,g,none⟩) C.aK.toNat j]) rfl (xL a rfl rfl fun p h a=>?_);refine bV bX (bV (aB bX) (bV (aA bX) (bV (an mb a (l:=C.enc) rfl rfl (oN (by simp[bQ.enc,iN]))) ?_)));refine aB (aA (am p a rfl (bH ?_)));have a:=a.cE (aE p 0 (C.enc++[.slice (some ⟨e,g,none⟩) C.aK.toNat j])) (dE C.aK.toNat fun i=>aE e (g+i*3) (Fq C.lines C.aK.toNat i (f i))) (dE C.aK.toNat fun i=>ij C.lines C.aK.toNat mem i (f i));have a:=(a.lJ).cE (aE p 0 (C.enc++[.slice (some ⟨e,g,none⟩) C.aK.toNat j])) (dE C.aK.toNat fun i=>aE e (g+i*3) (Fq C.lines C.aK.toNat i (f i))) (dE C.aK.toNat fun i=>ij C.lines C.aK.toNat mem i (f i));refine X8 (n:=C.lines) (B:=C.aK.toNat) (b:=e) (o:=g) (cap:=j) (C:=C) (mem:=mem) (f:=f) hb.2.2 s.2.2 ?_ C.aK.toNat 0 h [] (by omega) (by simpa using a);intro h a;refine u p _ ?_;have a:=nT (b:=e) (o:=g) (cap:=j) (a.cE (aE p 0 (C.enc++[.slice (some ⟨e,g,none⟩) C.aK.toNat j])) (hole G 3 245 (some ⟨e,g,none⟩) j C.aK.toNat e g) (dE C.aK.toNat fun i=>fB C.lines C.aK.toNat e (g+i*3) i mem));have a:=a.bL (dI 3 245 (some ⟨b,o,none⟩) cap (C.aK.toNat,(List.range C.aK.toNat).flatMap fun i=>Fq C.lines C.aK.toNat i (f i))) (dE C.aK.toNat fun i=>ij C.lines C.aK.toNat mem i (f i));have a:Hs G h (dE C.aK.toNat (fun i=>fB C.lines C.aK.toNat b (o+i*3) i mem)::hole G 3 245 (some ⟨b,o,none⟩) cap C.aK.toNat b o::_):=Hs.w6 (W:=3) (c:=Fq C.lines C.aK.toNat) (d:=ij C.lines C.aK.toNat mem) f (fun _ _=>rfl) hb.2.1 a;have a:=nT (b:=b) (o:=o) (cap:=cap) (a.cE (aE mb 0 (C.enc++[.slice (some ⟨b,o,none⟩) C.aK.toNat cap])) (hole G 3 245 (some ⟨b,o,none⟩) cap C.aK.toNat b o) (dE C.aK.toNat fun i=>fB C.lines C.aK.toNat b (o+i*3) i mem));exact a.to
end
section
set_option maxRecDepth 100000
variable {G:Bg} {h:AH} {L L':List HP} {Q:Value->AH->Prop}
end
section
set_option maxRecDepth 100000
variable {G:Bg} {h:AH} {L L':List HP} {Q:Value->AH->Prop}
def Dy (l:List Int):List (List Value):=l.map fun x=>[I x]
theorem sD (l:List Int):(Dy l).length=l.length:=by simp[Dy]
theorem N6 (l:List Int):(Dy l).flatten=l.map I:=by
 unfold Dy;induction l with
 |nil=>rfl
 |cons x l a=>rw[List.map_cons,List.flatten_cons,a];rfl
theorem Zz (l:List Int):(l.map I).all eK=true:=by
 induction l with
 |nil=>rfl
 |cons x l a=>rw[List.map_cons,List.all_cons,a];rfl
def Wu (p:List Ins):List (List Value):=p.map Ins.enc
theorem Jd (p:List Ins):(Wu p).length=p.length:=by simp[Wu]
theorem Pv (p:List Ins):(Wu p).flatten=yL p:=by
 unfold Wu yL;rw[List.flatMap_def]
theorem ba (p:List Ins):(yL p).all eK=true:=by
 unfold yL;induction p with
 |nil=>rfl
 |cons x l a=>rw[List.flatMap_cons,List.all_append,a];rfl
def H5 (G:Bg) (v:Value) (l:List Int):Prop:=tC G 1 v (Dy l).length (fun i=>(Dy l).getD i [])
def U5 (G:Bg) (v:Value) (p:List Ins):Prop:=tC G 4 v (Wu p).length (fun i=>(Wu p).getD i [])
structure Y8 (G:Bg) (pv wv ov vv:Value) (ps:List (List Ins)) (ws os vs:List Int):Prop where
 ps:∃vi:List Value,vi.length=ps.length/\tC G 1 pv (vi.map fun x=>[x]).length (fun i=>(vi.map fun x=>[x]).getD i [])/\∀(i:Nat) (v:Value) (p:List Ins),vi[i]?=some v->ps[i]?=some p->U5 G v p
 ws:H5 G wv ws
 os:H5 G ov os
 vs:H5 G vv vs
theorem rM {v:Value} {l:List Int} (a:H5 G v l) (c:Hs G h L):Hs G h (yU G 1 3 v (Dy l)::L):=B2 (by simp[Dy]) a c
theorem R6 {v:Value} {p:List Ins} (a:U5 G v p) (c:Hs G h L):Hs G h (yU G 4 76 v (Wu p)::L):=B2 (by simp[Wu,Ins.enc]) a c
theorem tK {W n:Nat} {v:Value} {at':Nat->List Value} {k:Value->Prop} (f:tC G W v n at') (e:k (I n)):bA (kS v) k:=by
 obtain⟨a,c,rfl,_⟩:=f;exact bH e
theorem X1 {_C:bQ} {pv:Value} {t2 t3 t4 t5:Value} {q:List Value} {ps:List (List Ins)} (F:q.length=ps.length) (y:tC G 1 pv (q.map fun x=>[x]).length (fun i=>(q.map fun x=>[x]).getD i []))
  (u:∀(i:Nat) (v:Value) (p:List Ins),q[i]?=some v->ps[i]?=some p->U5 G v p) (t:Ob G 1 tW) (E:ps.length<=1000)
  (B:sO ps≠0->∀j,Hs G j L->Q (.tuple ⟨[.pointer none,I (sO ps)]⟩) j) (D:sO ps=0->∀j,Hs G j L->Dd 12 5 [] Q [pv,t2,t3,t4,t5] j):
  ∀(f i:Nat) (h:AH),i+f=ps.length->sO ps=sO (ps.drop i)->Hs G h L->Dd 12 3 [] Q [pv,t2,t3,t4,t5,pv,(I ps.length),(I i)] h:=by
 intro f
 induction f with
 |zero=>
  intro i h w a g
  rw[List.drop_of_length_le (by omega)] at a
  exact bW (aI (aaa (D a _ g)))
 |succ f A=>
  intro i h w a g
  obtain⟨p,z,s⟩:=lK (l:=ps) (i:=i) (by omega)
  obtain⟨v,k,_⟩:=lK (l:=q) (i:=i) (by omega)
  rw[s,sO] at a
  have g:=B2 (e:=3) (by simp) y g
  refine bW (aI (aad (bW (yY g (x:=[v]) (by simp[k]) rfl (Ey (p:=p) t (R6 (u i v p k z) g.tail) fun h g=>aG rfl (aG rfl (aX (aT (fun c=>?_) (fun c=>?_)))))))))
  .rw[aLy c] at a;rw[<-a];exact B (by rw[a];exact c) _ g.tail
  .rw[aLx c] at a;exact bW (aac (A (i+1) h (by omega) a g.tail))
theorem br {C:bQ} (hC:C.Ok) {t1 t2 t3 t5 vv:Value} {mb:Nat} {vs:List Int} (t:H5 G vv vs) (q:Ob G 0 eY) (w:vs.length=C.lines*2)
  (k:∀e,Hs G e (eM G C.lines mb C (words oY vs 0)::L)->Dd 12 11 [] Q [t1,t2,t3,t5,(pt mb 0 0)] e):
  ∀(f i:Nat) (mem:Nat->Ln) (h:AH),i+f=vs.length->words oY vs 0=words mem (vs.drop i) i->Hs G h (eM G C.lines mb C mem::L)->Dd 12 9 [] Q [t1,t2,t3,t5,(pt mb 0 0),vv,(I vs.length),(I i)] h:=by
 have s:=bQ.eP hC
 intro f
 induction f with
 |zero=>
  intro i mem h j c a
  rw[List.drop_of_length_le (by omega),words] at c
  rw[c] at k
  exact bW (aI (aaa (k _ a)))
 |succ f v=>
  intro i mem h j c a
  obtain⟨x,u,g⟩:=lK (l:=vs) (i:=i) (by omega)
  rw[g,words] at c
  have a:=rM t a
  refine bW (aI (aad (bW (yY a (x:=[I x]) (by simp[Dy,u]) rfl (Gh hC q a.tail (by omega) fun h a=>aX (aaa (bW (aac (v (i+1) _ h (by omega) c a)))))))))
end
end Go.Proofs.YtmhapehobfnoiaaGreatDoor.A
namespace Go.Proofs.YtmhapehobfnoiaaGreatDoor.H
open Go Go.Ab Go.Hm
section
set_option maxRecDepth 100000
variable {G:Bg} {h:AH} {L L':List HP}
section
variable {hb p mb b o cap l:Nat} {C:bQ} {H:lB} {n:aQ} {r:Row} {m:Ln} {Q:Value->AH->Prop}
theorem rz (hC:C.Ok) (e:Ob G 0 eY) (t:l<C.lines) (j:n.line=l) (hc:0<=r.served.core/\r.served.core<4) (a:Hs G h (qS G hb p mb b o cap l C H n r m++L))
  (i:∀v s,Hs G s (eO v ((r.qY n).rest l m).2::fO G hb C (cB H l (((r.qY n).rest l m).1,m))::L)->Q v s):Dd 275 8 [] Q [(pt hb 0 0),(pt p 0 0),(pt b (o+l*25) 0)] h:=by
 simp only[qS,List.cons_append,List.nil_append] at a
 obtain⟨wa,wc,a⟩:=dU a
 refine bW (aS a ?_)
 intro u h a
 refine aA (aN a (by decide) (l:=[I n.d0,I n.d1]) rfl rfl (aB (aA (ay a ?_))))
 intro h a
 have q:=a
 refine aB (aA (ay a ?_))
 intro h a
 refine bV bX (bV (aA bX) (bV (aN q (by decide) (l:=[I n.d0,I n.d1]) rfl rfl (oN (by simp[nP]))) ?_))
 have a:=eF b (o+l*25) (r.qY n) wa wc a rfl rfl rfl
 have a:Hs G h (qS G hb p mb b o cap l C H n (r.qY n) m++L):=by
  simp only[qS,List.cons_append,List.nil_append];exact a.to
 have g:=a
 simp only[qS,List.cons_append,List.nil_append] at a
 have k:=a
 obtain⟨wa,wc,a⟩:=dU a
 refine(aB (aA (aN a (by decide) (l:=[.bool (r.asked 0),.bool (r.asked 1),.bool (r.asked 2),.bool (r.asked 3)]) rfl rfl (aJ (c:=[.bool false,.bool false,.bool false,.bool false]) rfl (xv (dH (fun f=>?_) (fun f=>?_)))))))
 .have f:(r.qY n).quiet=false:=by unfold Row.quiet;rw[show(r.qY n).asked=r.asked from rfl,f];rfl
  simp only[Row.rest,f,Bool.false_eq_true,if_false] at i
  exact i _ _ (qA (eQ hb C H l (r.qY n) m _ mb b o cap t rfl k)).to
 .exact Xr (r:=r.qY n) hC e t j hc (by unfold Row.quiet;rw[show(r.qY n).asked=r.asked from rfl,f];rfl) g i
end
theorem yx {C:bQ} (hC:C.Ok) {hb l:Nat} {H:lB} {n:aQ} {Q:Value->AH->Prop} (f:Ob G 0 eY) (a:Hs G h L) [m:Has (fO G hb C) L H L'] (q:l<C.lines) (j:n.line=l) (k:0<=n.core/\n.core<4) (hc:0<=(H l).1.served.core/\(H l).1.served.core<4)
  (g:∀v E,Hs G E (eO v (sQ.P6 (H l) l n).2::fO G hb C (cB H l (sQ.P6 (H l) l n).1)::L')->Q v E):
  Cl Pr K 275 [pt hb 0 0,.agg ⟨n.enc⟩] h Q:=by
 have a:=m.of a
 simp only[sQ.P6] at g
 refine cW (dL a ?_)
 intro p h a
 refine aS a ?_
 intro J h a
 obtain⟨mb,b,o,cap,a⟩:=D3 q (a.front (fO G hb C H))
 obtain⟨wa,wc,a⟩:=dU a
 refine aB (aA (aC a rfl (aA (aC a rfl ?_))))
 rw[j]
 refine dO q (aS a ?_)
 intro I h a
 refine aA (aC a rfl (aB (aA (fI k.1 k.2 (aFs (H l).1 a rfl k ?_)))))
 intro h a
 have i:=eF b (o+l*25) ((H l).1.mN n) wa wc a rfl rfl rfl
 refine aB (aA (aA (aC a rfl (aX (aT (fun w=>bW ?_) (fun w=>bW ?_))))))
 .simp only[Row.heard,aLy w] at g;unfold Row.Rz at g;refine aA (aC i rfl (Dm i k fun h a=>?_));refine aA (aC a rfl (dH (fun s=>bW ?_) (fun s=>?_)))
  .rw[aLy ⟨w,s⟩] at g;refine aS a ?_;intro D h a;refine aB (aA (aC a rfl (aA (aC a rfl ?_))));rw[j];refine aA (aN a (by decide) (l:=mO (n.d0,n.d1)) rfl rfl (Dz hC f a q fun h a=>?_));generalize A:((H l).1.mN n).leave n.core=r2 at a g;have u:0<=r2.served.core/\r2.served.core<4:=by rw[<-A];exact hc
   have a:Hs G h (qS G hb p mb b o cap l C H n r2 (n.d0,n.d1)++L'):=by
    simp only[qS,List.cons_append,List.nil_append];exact a.to
   have z:=a
   simp only[qS,List.cons_append,List.nil_append] at a
   have i:=a
   obtain⟨wa,wc,a⟩:=dU a
   refine(aB (aA (aN a (by decide) (l:=[.bool (r2.asked 0),.bool (r2.asked 1),.bool (r2.asked 2),.bool (r2.asked 3)]) rfl rfl (aJ (c:=[.bool false,.bool false,.bool false,.bool false]) rfl (xv (dH (fun y=>?_) (fun y=>?_)))))))
   .have y:r2.quiet=false:=by unfold Row.quiet;rw[y];rfl
    simp only[Row.rest,y,Bool.false_eq_true,if_false] at g
    exact g _ _ (qA (eQ hb C H l r2 (n.d0,n.d1) _ mb b o cap q rfl i)).to
   .exact Xr hC f q j u (by unfold Row.quiet;rw[y];rfl) z g
  .rw[aLx (by rw[s];simp)] at g;generalize A:((H l).1.mN n).leave n.core=r2 at a g;have u:0<=r2.served.core/\r2.served.core<4:=by rw[<-A];exact hc
   refine Yh hC f q j u (m:=(H l).2) (H:=H) (mb:=mb) (b:=b) (o:=o) (cap:=cap) (L:=L') ?_ g
   simp only[qS,List.cons_append,List.nil_append,eU]
   exact a.to
 .have F:(H l).1.Rz (H l).2 n=(H l).2:=by unfold Row.Rz;rw[aLx (fun e=>w e.1)]
  simp only[Row.heard,aLx w,F] at g
  refine aA (aC a rfl (aX (aT (fun s=>bW ?_) (fun s=>bW ?_))))
  .simp only[aLy s] at g;refine aB (aA (ay a ?_));intro h a;refine aS a ?_;intro D h a;refine aA (aC a rfl (aA (aC a rfl (sx ?_))));have B:=a;refine aB (aA (fI k.1 k.2 (ae {(H l).1.mN n with owner:= -1} a rfl k ?_)));intro h a;refine bV bX (bV (aA bX) (bV (aC B rfl iN) (bV (aB bX) (bV (aA bX) ?_))));have i:=eF b (o+l*25) (((H l).1.mN n).Gp n) wa wc a rfl rfl rfl;refine aA (aC a rfl (dH (fun t=>?_) (fun t=>?_)))
   .simp only[t,if_true] at g;refine rz (r:=((H l).1.mN n).Gp n) hC f q j hc (m:=(H l).2) (H:=H) (mb:=mb) (b:=b) (o:=o) (cap:=cap) (L:=L') ?_ g;simp only[qS,List.cons_append,List.nil_append,eU];exact i.to
   .simp only[t,Bool.false_eq_true,if_false] at g;refine Yh (r:=((H l).1.mN n).Gp n) hC f q j hc (m:=(H l).2) (H:=H) (mb:=mb) (b:=b) (o:=o) (cap:=cap) (L:=L') ?_ g;simp only[qS,List.cons_append,List.nil_append,eU];exact i.to
  .simp only[aLx s] at g;refine aA (aC a rfl (dH (fun t=>?_) (fun t=>?_)))
   .simp only[t,if_true] at g;refine rz (r:=(H l).1.mN n) hC f q j hc (m:=(H l).2) (H:=H) (mb:=mb) (b:=b) (o:=o) (cap:=cap) (L:=L') ?_ g;simp only[qS,List.cons_append,List.nil_append,eU];exact i.to
   .simp only[t,Bool.false_eq_true,if_false] at g;refine Yh (r:=(H l).1.mN n) hC f q j hc (m:=(H l).2) (H:=H) (mb:=mb) (b:=b) (o:=o) (cap:=cap) (L:=L') ?_ g;simp only[qS,List.cons_append,List.nil_append,eU];exact i.to
end
section
set_option maxRecDepth 100000
variable {G:Bg} {h:AH} {L L':List HP}
theorem N2 {b o:Nat} {line state x:Int} {r:Row} {Q:Value->AH->Prop} (a:Hs G h L) [m:Has (eI b o) L r L'] (e:∀v c,Hs G c (eO v (hQ line state (r.kD x))::eI b o (r.gR (r.kD x))::L')->Q v c):
  Cl Pr K 238 [pt b o 0,I x] h fun v c=>Cl Pr K 237 [pt b o 0,I line,I state,v] c Q:=by
 refine bz (m.of a) fun p q h a=>?_
 have a:=Kj (a.front (eI b o r))
 refine El (G:=G) (r:=r) (A:=Du b o p q x r) (L:=L') mc Yf tH (by kernel_rfl) ?_ fun v h a=>e v h ?_
 .simp only[Du];exact a.to
 .have a:=a.lJ.unpack;have a:Hs G h (lh b o r::Jk b o (r.gR (r.kD x))::eO v (hQ line state (r.kD x))::L'):=a.to;exact(N0 (r:=r.gR (r.kD x)) a).lJ
theorem ja {b o:Nat} {line state:Int} {e:TypeId} {a:Option Addr} {c:Nat} {r:Row} {x:Int} {cs:List Value} {Q:Value->AH->Prop} (q:0<=x/\x<4) (f:Hs G h L) [m:Has (dI 1 e a c) L (1,cs) L'] (i:cs=[I x]) {M:List HP} [m2:Has (eI b o) L' r M] (k:∀v g,Hs G g (eO v (hQ line state [x.toNat])::eI b o (r.gR [x.toNat])::M)->Q v g):
  Cl Pr K 99 [.slice a 1 c] h fun v g=>Cl Pr K 237 [pt b o 0,I line,I state,v] g Q:=by
 subst i
 have f:Hs G h (dI 1 e a c (1,[x].map I)::eI b o r::M):=f.perm (m.perm.trans (m2.perm.cons _))
 refine Od (e:=e) (xs:=[x]) rfl f fun p h f=>?_
 have f:=Kj (f.front (eI b o r))
 have s:cf Pr K G 152 [] [pt p 0 0] (Nv e p a c [x]) ([x.toNat].map fun(c:Nat)=>[I c]):=by
  have:=Em (G:=G) (e:=e) (p:=p) (a:=a) (c:=c) (xs:=[x]) (by simp);simp only[List.map_cons,List.map_nil,Int.toNat_of_nonneg q.1] at this ⊢;exact this
 refine El (G:=G) (r:=r) (A:=Nv e p a c [x]) (L:=lh b o r::M) s (fun c j=>by simp at j;omega) (by simp) (by kernel_rfl) ?_ fun v h f=>k v h ?_
 .exact f.to
 .have f:Hs G h (lh b o r::Jk b o (r.gR [x.toNat])::eO v (hQ line state [x.toNat])::M):=f.to;exact(N0 (r:=r.gR [x.toNat]) f).lJ
end
section
set_option maxRecDepth 100000
variable {G:Bg} {h:AH} {L L':List HP}
set_option maxHeartbeats 2000000 in
theorem Gd {C:bQ} (hC:C.Ok) {hb l:Nat} {H:lB} {n:aQ} {world:Int} {Q:Value->AH->Prop} (y:Ob G 0 eY) (f:Hs G h L) [m:Has (fO G hb C) L H L'] (w:l<C.lines) (D:0<=n.core/\n.core<4) (t: -1<=(H l).1.owner/\(H l).1.owner<4)
  (g:∀v u,Hs G u (eO v ((H l).1.get l (H l).2 n world).2::fO G hb C (cB H l (((H l).1.get l (H l).2 n world).1,(H l).2))::L')->Q v u):
  Cl Pr K 235 [pt hb 0 0,I l,I world,.agg ⟨n.enc⟩] h Q:=by
 have f:=m.of f
 simp only[Row.get] at g
 refine cW (dL f ?_)
 intro p h f
 obtain⟨mb,b,o,cap,f⟩:=D3 w (f.front (fO G hb C H))
 obtain⟨wa,wc,f⟩:=dU f
 refine aB (aA (aC f rfl (dO w (aS f ?_))))
 intro P h f
 refine aN f (by decide) (l:=n.enc) rfl rfl (aB (aA (ay f ?_)))
 intro h f
 have E:=f
 refine aB (aA (ay f ?_))
 intro h f
 refine aB (aA (ay f ?_))
 intro h f
 refine bV bX (bV bX (bV bX (bV (aN E (by decide) (l:=n.enc) rfl rfl (oN (by simp[nP,aQ.enc]))) (bV iN (bV iN ?_)))))
 refine aA (aC f rfl (bG ?_))
 have f:=eF b (o+l*25) ((H l).1.serve n world) wa wc f rfl rfl rfl
 have j:((H l).1.serve n world).served.core=n.core:=rfl
 have t: -1<=((H l).1.serve n world).owner/\((H l).1.serve n world).owner<4:=t
 generalize O:(H l).1.serve n world=r at f g j t
 have hU:∀(k:Row),k.served.core=n.core->∀h,Hs G h (eI b (o+l*25) k::aE hb 0 (lN mb C b o cap)::eM G C.lines mb C (fun i=>(H i).2)::hole G 25 222 (some ⟨b,o,none⟩) cap C.lines b o::zC b o C.lines H l::L')->
   (∀v u,Hs G u (eO v (k.hU l (k.mj (H l).2)).2::fO G hb C (cB H l ((k.hU l (k.mj (H l).2)).1,(H l).2))::L')->Q v u)->Cl Pr K 293 [pt hb 0 0,I l] h Q:=fun k B h f g=>by
  have f:=eQ hb C H l k (H l).2 _ mb b o cap w eU.symm f
  refine Dj hC y f w (by simp only[gP,B];exact D) fun v h f=>g _ _ ?_
  simp only[gP,Cj] at f
  exact f.to
 have q:∀(k:Row) (N:List aQ) v h,Hs G h (eO v N::eI b (o+l*25) k::aE hb 0 (lN mb C b o cap)::eM G C.lines mb C (fun i=>(H i).2)::hole G 25 222 (some ⟨b,o,none⟩) cap C.lines b o::zC b o C.lines H l::L')->Hs G h (eO v N::fO G hb C (cB H l (k,(H l).2))::L'):=fun k N v h f=>
  (eQ hb C H l k (H l).2 _ mb b o cap w eU.symm f).to
 refine aT (fun z=>?_) (fun z=>?_)
 .simp only[aLy z,Row.getM,j] at g;refine bW (aA (aC f rfl (uV f fun f=>aX (aT (fun s=>?_) (fun s=>?_)))))
  .rw[aLy s] at g;refine aA (aC f rfl (N2 f fun v h f=>g _ _ ?_));exact q _ _ _ _ f.to
  .rw[aLx s] at g;exact hU r j _ f.to g
 .simp only[aLx z,Row.j1] at g;refine bW (aS f ?_);intro J h f;obtain⟨wa,wc,f⟩:=dU (f.front (eI b (o+l*25) r));refine aB (aA (aC f rfl (aA (aC f rfl (bG (aT (fun s=>bW ?_) (fun s=>bW ?_)))))))
  .have F:r.tG={r with owner:= -1}:=by unfold Row.tG;rw[aLy (by rw[j];exact s)]
   rw[F] at g
   simp only[ne_eq,not_true_eq_false,if_false] at g
   refine aB (aA (ay f ?_))
   intro h f
   refine aB (aA (aC f rfl (aX (aH (by simp) ?_))))
   have f:=eF b (o+l*25) {r with owner:= -1} wa wc f rfl rfl rfl
   exact hU {r with owner:= -1} j _ f.to g
  .have F:r.tG=r:=by unfold Row.tG;rw[aLx (by rw[j];exact s)]
   rw[F] at g
   refine aB (aA (aC f rfl (aX (aT (fun A=>?_) (fun A=>?_)))))
   .rw[aLy A] at g;refine aB (aA (aC f rfl (aJ (c:=[I r.owner]) rfl (dC f rfl rfl rfl ?_))));intro a h f;have f:=eF b (o+l*25) r wa wc f rfl rfl rfl;refine ja (e:=3) (by omega) f rfl fun v h f=>g _ _ ?_;exact q _ _ _ _ f.to
   .rw[aLx A] at g;have f:=eF b (o+l*25) r wa wc f rfl rfl rfl;exact hU r j _ f.to g
end
section
set_option maxRecDepth 100000
variable {G:Bg} {h:AH} {L L':List HP}
theorem tY {C:bQ} {hb mb b o cap:Nat} {x:Int} {Q:Value->AH->Prop} (e:Hs G h L) [m:Has (aE hb 0) L (lN mb C b o cap) L'] (c:Q (.bool (decide (C.has x))) h):Cl Pr K 115 [pt hb 0 0,I x] h Q:=by
 refine cW (Kh (dN (dV (aT (fun a=>?_) (fun a=>?_)))));refine aB (aA (aC e rfl (bH (aI ?_))));show Q _ _;rw[show decide (x<(C.lines:Int))=decide (C.has x) from decide_eq_decide.2 ⟨fun h=>⟨a,h⟩,fun h=>h.2⟩];exact c;show Q _ _;rw[show false=decide (C.has x) from(decide_eq_false (fun h=>a h.1)).symm];exact c
theorem Ij {C:bQ} {H:lB} {b o l:Nat} (a:l<C.lines) (c:Hs G h L) [k:dX (dE C.lines fun i=>eI b (o+i*25) (H i).1) L L']:Hs G h (eI b (o+l*25) (H l).1::zC b o C.lines H l::L'):=
 (c.front (dE C.lines fun i=>eI b (o+i*25) (H i).1)).kH l a
theorem Ax (C:bQ) (H:lB) (hb mb b o cap:Nat) {a L2 c e:List HP} (f:Hs G h L) [g:dX (aE hb 0 (lN mb C b o cap)) L a] [j:dX (eM G C.lines mb C (fun i=>(H i).2)) a L2]
  [k:dX (hole G 25 222 (some ⟨b,o,none⟩) cap C.lines b o) L2 c] [q:dX (dE C.lines fun i=>eI b (o+i*25) (H i).1) c e]:Hs G h (fO G hb C H::e):=
 pU (mb:=mb) (b:=b) (o:=o) (cap:=cap) (f.perm (g.perm.trans ((j.perm.trans ((k.perm.trans (q.perm.cons _)).cons _)).cons _)))
section
variable {C:bQ} {hb mb b o cap p l:Nat} {H:lB} {n:aQ} {Q:Value->AH->Prop}
theorem aF6 (hC:C.Ok) (t:Ob G 0 eY) (q:l<C.lines) (u:n.line=l) (s:0<=n.core/\n.core<4) (A:(H l).1.Inv) (D:(H l).1.waits.length<2^30)
  (f:Hs G h (aE p 0 n.enc::aE hb 0 (lN mb C b o cap)::eM G C.lines mb C (fun i=>(H i).2)::hole G 25 222 (some ⟨b,o,none⟩) cap C.lines b o::dE C.lines (fun i=>eI b (o+i*25) (H i).1)::L))
  (g:∀v z,Hs G z (eO v (sQ.take (H l) l n).2.1::fO G hb C (cB H l (sQ.take (H l) l n).1)::L)->Q (.tuple ⟨[v,I (sQ.take (H l) l n).2.2]⟩) z):
  Dd 215 6 [] Q [(pt hb 0 0),(pt p 0 0)] h:=by
 unfold sQ.take at g
 refine bW (aS f ?_)
 intro E h f
 have f:=Ij (H:=H) (b:=b) (o:=o) q f
 have same:∀h,Hs G h (eI b (o+l*25) (H l).1::zC b o C.lines H l::aE p 0 n.enc::aE hb 0 (lN mb C b o cap)::eM G C.lines mb C (fun i=>(H i).2)::hole G 25 222 (some ⟨b,o,none⟩) cap C.lines b o::L)->Hs G h (eO (.slice none 0 0) []::fO G hb C (cB H l (H l))::L):=fun h f=>
  qA ((eQ hb C H l (H l).1 (H l).2 _ mb b o cap q eU.symm f).to)
 have B:Hs G h (eI b (o+l*25) (H l).1::zC b o C.lines H l::aE p 0 n.enc::aE hb 0 (lN mb C b o cap)::eM G C.lines mb C (fun i=>(H i).2)::hole G 25 222 (some ⟨b,o,none⟩) cap C.lines b o::L):=f.to
 obtain⟨wa,wc,f⟩:=dU f
 refine aB (aA (aC f rfl (aA (aC f rfl ?_))))
 rw[u]
 refine dO q (aA (aC f rfl (bG (aT (fun y=>bW ?_) (fun y=>bW ?_)))))
 .rw[aLy y] at g;refine aS f ?_;intro w h f;refine aB (aA (aC f rfl (bY (dY (dH (fun j=>?_) (fun j=>?_))))))
  .refine aB (aA (aA (aC f rfl (aA (aC f rfl (aX (aT (fun k=>?_) (fun k=>bW ?_))))))))
   .rw[aLy (.inr k)] at g;exact g _ _ (same _ (eF b (o+l*25) (H l).1 wa wc f rfl rfl rfl).to)
   .rw[aLx (by rw[j];simpa using k)] at g;have f:=eF b (o+l*25) (H l).1 wa wc f rfl rfl rfl;refine gx f fun h f=>g _ _ ?_;exact qA ((eQ hb C H l (H l).1.free (H l).2 _ mb b o cap q eU.symm f).to)
  .rw[aLy (.inl j)] at g;exact g _ _ (same _ (eF b (o+l*25) (H l).1 wa wc f rfl rfl rfl).to)
 .rw[aLx y] at g;refine bG (aT (fun j=>bW ?_) (fun j=>bW ?_))
  .rw[aLy j] at g;refine aS f ?_;intro w h f;refine aA (aC f rfl (aB (aA (fI s.1 s.2 (aC f (v:= .bool ((H l).1.asked n.core.toNat)) ?_ (bY (dY (dH (fun k=>?_) (fun k=>?_)))))))))
   .have:n.core.toNat=0\/n.core.toNat=1\/n.core.toNat=2\/n.core.toNat=3:=by omega
    rcases this with e|e|e|e<;>rw[e]<;>rfl
   .rw[aLx (by rw[k];simp)] at g;refine aN f (by decide) (l:=n.enc) rfl rfl ?_;have f:=eF b (o+l*25) (H l).1 wa wc f rfl rfl rfl;have f:=eQ hb C H l (H l).1 (H l).2 _ mb b o cap q eU.symm f;rw[show cB H l ((H l).1,(H l).2)=H from rV] at f;exact yx hC t f q u s A.core fun v h f=>g _ _ f.to
   .rw[aLy k] at g;exact g _ _ (same _ (eF b (o+l*25) (H l).1 wa wc f rfl rfl rfl).to)
  .rw[aLx j] at g;refine aS f ?_;intro w h f;refine aB (aA (aC f rfl (aN f (by decide) (l:=n.enc) rfl rfl (aJ (c:=n.enc) rfl ?_))));refine gM f rfl rfl rfl rfl rfl ?_;intro a h f;refine rD f (by omega) ?_;intro a4 c4 h f;dsimp only;refine aB (aA (ay f ?_));intro h f;refine bV bX (g _ _ ?_);have f:=eF b (o+l*25) ((H l).1.wait n) a4 c4 f (by simp[Row.enc,dT,Row.wait]) (by simp[Row.wait]) (by simp[xJ,Row.wait]);exact qA ((eQ hb C H l ((H l).1.wait n) (H l).2 _ mb b o cap q eU.symm f).to)
end
end
end Go.Proofs.YtmhapehobfnoiaaGreatDoor.H
end
