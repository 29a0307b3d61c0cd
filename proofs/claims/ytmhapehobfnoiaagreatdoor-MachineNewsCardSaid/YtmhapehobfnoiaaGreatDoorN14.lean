/- A part of the proof. -/
import Derived.Test.YtmhapehobfnoiaaGreatDoorN13
import Derived.Test.YtmhapehobfnoiaaGreatDoorN12
namespace Go.Mc
open Go Go.Ab Go.Hm Go.At Go.Is Go.Ct Go.Nt Go.Pc
section
variable {C:bA} {N:Nat} {M M':bY} {V V':Nat->Ln} {A0:AM}
theorem vH {H:kO} {k:Nat} (e:k<C.lines) (h:¬vY C H k>0):¬Fv (H k).1:=by
 unfold vY at h;rw[aCx (by unfold bA.has;omega),Int.toNat_natCast] at h;unfold Row.Gt at h;rintro (⟨c,d⟩|⟨x,b,a⟩);grind;have:0<((H k).1.waits.filter fun n=>decide (n.kind=0)).length:=List.length_pos_iff.2 (List.ne_nil_of_mem (List.mem_filter.2 ⟨b,decide_eq_true a⟩));split at h<;>omega
theorem _root_.Go.Pc.iU.jY {H:kO} {X:Nat->eM} {L:List aH} {g:Nat} (h:iU C H X V L) (_o:(g:Int)<C.aG) (i:Pc.Clean (H (g*2)).1) (j:Pc.Clean (H (g*2+1)).1):iU C (nY H g) X (At.jY V g) L:=by
 refine⟨fun l n=>?_,h.oQ,h.room,h.new,h.nb⟩;have b:=h.line l n;have a:Pc.Clean (H l).1->Inv l (H l).1 (0,0) (0,0) (cls C X l) (Az l L):=fun k=>by
  obtain⟨f,c2⟩:=b.clean k;exact b.df f fun x d=>⟨(c2 x d).1,fun e=>absurd e (c2 x d).2.1⟩
 unfold nY At.jY;by_cases e:l=g*2;subst e;rw[aCx (.inl (by omega)),Ab.bQ (by omega),Ab.dJ];exact a i;by_cases c:l=g*2+1;subst c;rw[aCx (.inr (by omega)),Ab.dJ];exact a j;rw[aaa,Ab.bQ c,Ab.bQ e];exact b
theorem U3 (h:RX C A0 M V) {a:Int} (d:(M.finish C a).2=0):
  ∃g r,a=((g:Nat):Int)/\(g:Int)<C.aG/\M.bC.runs g=some r/\r.phase=2/\(Pc.Clean (M.home (g*2)).1/\Pc.Clean (M.home (g*2+1)).1)/\
   M.finish C a=bY.aY (if r.jY then(M.kY ((M.bC.mZ r.bL.toNat ⟨r.then',false⟩).dE g none)).Ao (nY M.home r.bL) else M.kY ((M.bC.mZ r.bL.toNat ⟨r.then',false⟩).dE g none)) r.core.toNat 0 0:=by
 unfold bY.finish at d ⊢
 by_cases i:0<=a/\a<C.aG
 rotate_left
 .rw[aCx i] at d;cases d
 rw[aCw (fun e=>e i)] at d ⊢
 obtain⟨g,n⟩:=Int.eq_ofNat_of_zero_le i.1
 subst n
 by_cases c:M.mC C g=false
 .grind
 rw[aCw c] at d ⊢
 have c:M.mC C g=true:=by simpa using c
 unfold bY.mC at c
 simp only[Bool.and_eq_true,decide_eq_true_eq,Bool.not_eq_true',decide_eq_false_iff_not] at c
 obtain⟨⟨f,q⟩,j⟩:=c
 have b:M.bC.run g=M.bC.runs g:=by unfold Mon.run;rw[aac,Int.toNat_natCast]
 cases hr:M.bC.runs g with
 |none=>unfold Mon.phase at f;rw[b,hr] at f;cases f
 |some r=>
  have p:r.phase=2:=by unfold Mon.phase at f;grind
  have l:=qT i.2
  have hold:=h.swp g r hr p
  have s:Pc.Clean (M.home (g*2)).1:=by
   rcases hold.1 with e|e;exact absurd e (vH l.1 (by grind));exact e
  have t:Pc.Clean (M.home (g*2+1)).1:=by
   rcases hold.2 with e|e;exact absurd e (vH l.2 (by rw[show((g*2+1:Nat):Int)=(g:Int)*2+1 by omega];exact j));exact e
  by_cases k:M.bC.has g
  .have o:M.bC.over g=((M.bC.mZ r.bL.toNat ⟨r.then',false⟩).dE g none,some r,0):=by
    unfold Mon.over;rw[aCw (fun e=>e k),b,hr];dsimp only;grind
   grind
  .exfalso;have o:M.bC.over g=(M.bC,none,10):=by unfold Mon.over;rw[aCx k]
   grind
def uv (V:Nat->Ln) (b:Bool) (g:Nat):Nat->Ln:=if b then At.jY V g else V
theorem RX.finish (hC:C.Ok) (s:cS C N M) (I:N1 M) (h:RX C A0 M V) {g:Nat} {r:Mc.iK} (l:(g:Int)<C.aG) (p:M.bC.runs g=some r) (O:r.phase=2) (k:Pc.Clean (M.home (g*2)).1/\Pc.Clean (M.home (g*2+1)).1):
  RX C A0 (bY.aY (if r.jY then(M.kY ((M.bC.mZ r.bL.toNat ⟨r.then',false⟩).dE g none)).Ao (nY M.home r.bL) else M.kY ((M.bC.mZ r.bL.toNat ⟨r.then',false⟩).dE g none)) r.core.toNat 0 0).1 (Mc.uv V r.jY g)/\
  (bY.aY (if r.jY then(M.kY ((M.bC.mZ r.bL.toNat ⟨r.then',false⟩).dE g none)).Ao (nY M.home r.bL) else M.kY ((M.bC.mZ r.bL.toNat ⟨r.then',false⟩).dE g none)) r.core.toNat 0 0).2=0:=by
 obtain⟨B,K⟩:=h.ask g r p
 have D:=s.bC.len
 have n:=s.bC.run g r p
 obtain⟨i,S⟩:=Int.eq_ofNat_of_zero_le n.2.2.2.1.1
 have v:r.core.toNat=i:=by omega
 have u:(i:Int)<C.aD:=by omega
 rw[v] at B
 have J:r.bL=g:=n.2.1
 have o:(nS C M V).dU.length=M.bC.bX.length:=by show(M.bC.bX.map _).length=_;rw[List.length_map]
 have j:(nS C M V).dU.getD (g:Int).toNat 0=(M.bC.kP g).owner:=by
  show(M.bC.bX.map dT.owner).getD _ _=_;rw[Gw (by omega)];rfl
 have d:(nS C M V).call r.call r.world g r.to (decide ((0:Int)=17))=(⟨C,M.aB,(M.bC.bX.map dT.owner).set g r.then',Mc.uv V r.jY g⟩,0):=by
  unfold AM.call;rw[aCw (by rw[o];omega),aCw (by decide),j,K,aCw (by simp)];rfl
 have y:=Ua (A:=nS C M V) (e:=0) u B d
 obtain⟨q,z,t⟩:=y
 have t:pR (aJ.aY (M.aB i) i 0 0).2.1=false:=t
 have q:(nS C M V).step i false=_:=q
 have f:=pL z
 generalize H:(if r.jY then(M.kY ((M.bC.mZ r.bL.toNat ⟨r.then',false⟩).dE g none)).Ao (nY M.home r.bL) else M.kY ((M.bC.mZ r.bL.toNat ⟨r.then',false⟩).dE g none))=M1
 have m1:M1.aB=M.aB:=by grind
 have m2:M1.log=M.log:=by grind
 have m3:M1.bC=(M.bC.mZ g ⟨r.then',false⟩).dE g none:=by grind
 have m4:M1.home=if r.jY then nY M.home g else M.home:=by grind
 have m5:M1.dN=M.dN:=by grind
 have m6:M1.jS=M.jS:=by grind
 have m7:M1.dB=M.dB:=by grind
 have E:M1.aY r.core.toNat 0 0=((M1.oS i (aJ.aY (M.aB i) i 0 0).1).Rs (aJ.aY (M.aB i) i 0 0).2.1,0):=by
  unfold bY.aY;dsimp only;have F:(aJ.aY (M1.aB i) i 0 0).2.2=0:=by rw[m1];exact z
  grind
 rw[E]
 refine⟨?_,rfl⟩
 constructor
 case Hn=>
  show iU C M1.home M1.dB _ (mS C M1.jS)
  rw[m4,m6,m7]
  unfold Mc.uv
  split
  .exact h.Hn.jY l k.1 k.2
  .exact h.Hn
 case oU=>
  show eX C M1.dN M1.bC (mS C M1.jS)
  rw[m3,m5,m6]
  exact(h.oU.over hC (by omega) l p O).1
 case swp=>
  show∀b c,M1.bC.runs b=some c->c.phase=2->Dz (M1.home (b*2)).1/\Dz (M1.home (b*2+1)).1
  rw[m3,m4]
  intro b c a x
  have a:aI M.bC.runs g none b=some c:=a
  unfold aI at a
  by_cases e:b=g
  .grind
  .rw[aCw e] at a;have:=h.swp b c a x;split
   .unfold nY;grind
   .exact this
 case ask=>
  intro b c a
  have a:M1.bC.runs b=some c:=a
  rw[m3] at a
  have a:aI M.bC.runs g none b=some c:=a
  unfold aI at a
  by_cases e:b=g
  .grind
  rw[aCw e] at a
  have w:c.core.toNat≠i:=fun P=>by
   have R:=(s.bC.run b c a).2.2.2.1;refine e (I.one b g r.core ?_ ?_);unfold rc;grind;unfold rc;rw[p];rfl
  show aJ.C2 (aI M1.aB i _ c.core.toNat) _=_/\hQ _ _ (M1.bC.kP b).owner _=_
  rw[m1,m3,Ab.bQ w]
  have:((M.bC.mZ g ⟨r.then',false⟩).dE g none).kP b=M.bC.kP b:=by
   show(M.bC.mZ g _).kP b=_;rw[Dh (by omega) (by omega),aaa]
  rw[this]
  exact h.ask b c a
 case log=>
  rw[<-f,<-t] at q
  have:=O9 h.log q
  show oD A0 (M1.log++_) 0=(⟨C,aI M1.aB i _,M1.bC.bX.map dT.owner,_⟩,(M1.log++_).length,0)
  rw[m1,m2,m3,this]
  have:((M.bC.mZ g ⟨r.then',false⟩).dE g none).bX.map dT.owner=(M.bC.bX.map dT.owner).set g r.then':=by
   show(M.bC.bX.set g _).map _=_;rw[List.map_set]
  rw[this]
theorem RX.Yc (hC:C.Ok) (o:cS C N M) (p:N1 M) (h:RX C A0 M V) {a:Int}:∃V',RX C A0 (M.finish C a).1 V':=by
 by_cases b:(M.finish C a).2=0;obtain⟨g,r,rfl,c,f,d,n,u⟩:=U3 h b;rw[u];exact⟨_,(h.finish hC o p c f d n).1⟩;refine⟨V,?_⟩;suffices k:(M.finish C a).1=M by rw[k];exact h
 unfold bY.finish at b ⊢;by_cases j:¬(0<=a/\a<C.aG);rw[aCx j];rw[aCw j] at b ⊢;by_cases l:M.mC C a=false;rw[aCx l];rw[aCw l] at b ⊢;dsimp only at b ⊢;cases ho:(M.bC.over a).2.1 with
 |none=>rfl
 |some r=>
  rw[ho] at b;exfalso;obtain⟨g,v⟩:=Int.eq_ofNat_of_zero_le (Decidable.not_not.1 j).1;subst v;have w:M.bC.has g:=by
   apply Classical.byContradiction;intro e;unfold Mon.over at ho;rw[aCx e] at ho;cases ho
  have i:M.bC.run g=M.bC.runs g:=by unfold Mon.run;rw[aac,Int.toNat_natCast]
  unfold Mon.over at ho b;rw[aCw (fun e=>e w),i] at ho b;cases f:M.bC.runs g with
  |none=>grind
  |some x=>
   rw[f] at ho b;dsimp only at ho b;split at ho;cases ho;rename_i d;rw[aCw d] at b;cases ho;have c:=(Decidable.not_not.1 j).2;have k:M.mC C g=true:=by simpa using l
   unfold bY.mC at k;simp only[Bool.and_eq_true,decide_eq_true_eq,Bool.not_eq_true',decide_eq_false_iff_not] at k;have d:r.phase=2:=Decidable.not_not.1 d;have q:=qT c;have hold:=h.swp g r f d;have s:Pc.Clean (M.home (g*2)).1:=by
    rcases hold.1 with e|e;exact absurd e (vH q.1 (by grind));exact e
   have t:Pc.Clean (M.home (g*2+1)).1:=by
    rcases hold.2 with e|e;exact absurd e (vH q.2 (by grind));exact e
   have:=(h.finish hC o p c f d ⟨s,t⟩).2;grind
theorem RX.P7 (hC:C.Ok) (a:cS C N M) (b:N1 M) (h:RX C A0 M V) {d:Do}:∃V',RX C A0 (M.P7 C d).1 V':=by
 unfold bY.P7;split;exact h.step hC a;split;exact⟨V,h.ba hC a⟩;split;exact⟨V,h.Sn a⟩;split;exact h.Yc hC a b;exact⟨V,h⟩
structure RA (C:bA) (A0:AM) (S:Nat->aJ) (N:Nat) (M:bY):Prop where
 all:jn C S N M
 rx:∃V,RX C A0 M V
theorem RA.P7 {S:Nat->aJ} (hC:C.Ok) (h:RA C A0 S N M) {d:Do}:RA C A0 S (N+2) (M.P7 C d).1:=by
 obtain⟨V,a⟩:=h.rx;exact⟨h.all.P7 hC,a.P7 hC h.all.inv h.all.wait⟩
theorem RA.runs {S:Nat->aJ} (hC:C.Ok):∀{l:List Do} {N:Nat} {M:bY},RA C A0 S N M->RA C A0 S (N+2*l.length) (M.runs C l):=by
 intro l;induction l with
 |nil=>intro N M h;exact h
 |cons d l a=>
  intro N M h;have:=a (h.P7 (d:=d) hC);rw[List.length_cons,show N+2*(l.length+1)=N+2+2*l.length by omega];exact this
end
section
variable {C:bA}
theorem RX.new {ps:List (List Ins)} {ws os vs:List Int} (hC:C.Ok) (b:(os.length:Int)=C.aG):RX C (Qf C ps ws os vs) (MC.new ⟨C,ps,ws,os,vs⟩) (At.words iC vs 0):=by
 have f:∀F:Nat->List aH,(∀c,F c=[])->(List.range C.aD.toNat).flatMap F=[]:=fun F h=>by
  simp_all
 have a:mS C (MC.new ⟨C,ps,ws,os,vs⟩).jS=[]:=by
  unfold mS;exact f _ fun c=>by rw[List.flatMap_eq_nil_iff];exact fun _ _=>rfl
 constructor;rw[a];refine⟨fun l b=>?_,fun _ _=>Nb,fun _ _=>Room.new,fun _ _=>rfl,fun _ h=>by cases h⟩;have e:((MC.new ⟨C,ps,ws,os,vs⟩).home l).1=oW:=by
  show(kU C.lines l).1=oW;unfold kU;rw[aCx b]
 rw[e];have d:cls C (MC.new ⟨C,ps,ws,os,vs⟩).dB l=fun _=>⟨0,(0,0),false,false,false,0,(0,0)⟩:=by
  funext i;exact ga
 rw[d];show Inv l oW (At.words iC vs 0 l) (At.words iC vs 0 l) _ [];exact(Inv.zero l).df (fun _ _=>rfl) (fun _ h=>by cases h);rw[a];refine eX.new (es:=os.map fun o=>(⟨o,false⟩:dT)) (by grind) hC.2.1.1 fun x g=>?_;grind;exact fun _ _ h=>by cases h
 exact fun _ _ h=>by cases h
 show((Qf C ps ws os vs),0,0)=(_,0,0);have:(os.map fun o=>(⟨o,false⟩:dT)).map dT.owner=os:=by
  rw[List.map_map];show os.map (fun o=>o)=os;exact List.map_id' os
 show _=((⟨C,_,(os.map fun o=>(⟨o,false⟩:dT)).map dT.owner,_⟩:AM),0,0);rw[this];rfl
def yW (mem:Nat->Ln) (n:Nat):List Int:=(List.range n).map (kM mem)
theorem O4 {mem:Nat->Ln} {n:Nat}:(yW mem n).length=n:=by unfold yW;simp
theorem D2 {mem:Nat->Ln} {n w:Nat} (h:w<n):(yW mem n)[w]?=some (kM mem w):=by unfold yW;simp[h]
theorem U6 {mem:Nat->Ln} {w k:Nat} {v:Int}:kM (oC mem w v) k=if k=w then v else kM mem k:=by
 unfold kM oC aI;grind
theorem Rz {C:bA} {vs:List Int} (h:vs.length=C.lines*2):yW (At.words iC vs 0) (C.lines*2)=vs:=by
 have a:∀(l:List Int) (mem:Nat->Ln) (i k:Nat),kM (At.words mem l i) k=if i<=k then(l[k - i]?).getD (kM mem k) else kM mem k:=by
  intro l;induction l with
  |nil=>intro mem i k;simp[At.words]
  |cons v l c=>
   intro mem i k;show kM (At.words (oC mem i v) l (i+1)) k=_;rw[c,U6];grind
 apply List.ext_getElem?;intro k;by_cases b:k<C.lines*2;rw[D2 b,a,aCx (Nat.zero_le k),Nat.sub_zero,List.getElem?_eq_getElem (by omega)];rfl;rw[List.getElem?_eq_none (by rw[O4];omega),List.getElem?_eq_none (by omega)]
end
section
variable {C:bA}
theorem Np {vs:List Int} (h:vs.length=C.lines*2) {w:Nat} (a:w<C.lines*2):vs.getD w 0=kM (At.words iC vs 0) w:=by
 have e:=D2 (mem:=At.words iC vs 0) a;rw[Rz h] at e;rw[List.getD_eq_getElem?_getD,e];rfl
theorem Wu {vs:List Int} (h:vs.length=C.lines*2):((List.range (vs.length/2)).map fun i=>((vs.getD (2*i) 0,vs.getD (2*i+1) 0):Ln))=(List.range C.lines).map fun i=>At.words iC vs 0 i:=by
 rw[show vs.length/2=C.lines by omega];apply List.map_congr_left;intro i a;have a:i<C.lines:=by simpa using a
 rw[Np h (by omega),Np h (by omega)];unfold kM;rw[aac,aaa,show 2*i/2=i by omega,show(2*i+1)/2=i by omega]
theorem Y7 {ps:List (List Ins)} {ws os vs:List Int}:bY.over C (MC.new ⟨C,ps,ws,os,vs⟩)=(List.range C.aD.toNat).all fun i=>((MC.new ⟨C,ps,ws,os,vs⟩).aB i).over:=by
 have b:bY.notes C (MC.new ⟨C,ps,ws,os,vs⟩)=[]:=by
  unfold bY.notes;rw[List.flatMap_eq_nil_iff];intro c _;rw[List.flatMap_eq_nil_iff];intro w _;rfl
 have d:((List.range C.lines).all fun l=>decide (((MC.new ⟨C,ps,ws,os,vs⟩).home l).1.waits=[]))=true:=by
  rw[List.all_eq_true];intro l a;have a:l<C.lines:=by simpa using a
  have e:((MC.new ⟨C,ps,ws,os,vs⟩).home l).1=oW:=by
   show(kU C.lines l).1=oW;unfold kU;rw[aCx a]
  rw[e];rfl
 have f:∀i,(((MC.new ⟨C,ps,ws,os,vs⟩).aB i).over&& !((MC.new ⟨C,ps,ws,os,vs⟩).dB i).xF&& !((MC.new ⟨C,ps,ws,os,vs⟩).dN i).gS)=((MC.new ⟨C,ps,ws,os,vs⟩).aB i).over:=fun i=>by
  show(_&& !false&& !false)=_;simp
 unfold bY.over;simp only[b,d,f];simp
theorem Po {ps:List (List Ins)} {ws os vs:List Int}:(MC.new ⟨C,ps,ws,os,vs⟩).bC.bX=os.map fun o=>⟨o,false⟩:=rfl
end
end Go.Mc
section
open Go Go.Ab
attribute [local irreducible] bB Br ld1 A5 I7 Cd kT yC kI Xx qS zP Bo pT nL mH yV A1 Xb T1 P6 P5 Tb Uj Mx Tc W6 kQ tQ tE iB copyV kV V5 Vo W0 Ed iZ Rp Vn Uz lZ rG Ay yZ Cl C9 Ui qR qH iO eI bS bG
namespace Go.Proofs.YtmhapehobfnoiaaGreatDoor
open Go Go.Ab Go.Hm Go.At Go.Mc Go.Ct Go.Nt Go.Is
section
set_option maxRecDepth 100000
variable {G:Bg} {h:AH} {L L':List HP} {Q:Value->AH->Prop} {Cf:bA} {m:Nat} {M:bY}
theorem Yo {k:Nat} (hC:Cf.Ok) (d:(k:Int)<Cf.aD) (a:Hs G h L) [e:Has (eJ G Cf m) L M L'] (c:∀b,Hs G b (eJ G Cf m M::L')->Q (.tuple ⟨[.agg ⟨(M.aB k).core⟩,I 0]⟩) b):Cl Pr K 13 [pt m 0 0,I k] h Q:=by
 refine Oq hC a fun h a=>?_;unfold bY.core;rw[aac,Int.toNat_natCast];exact c h a
theorem Wv {p2 pa:Nat} {cs:List Value} {A0:AM} (hC:Cf.Ok) (d:gR Cf M.bC) (c:cs[0]?=some (I Cf.aD)) (hA:A0.Ok) (n:A0.cfg=Cf) (q:∀i:Nat,(i:Int)<Cf.aD->A0.aB i=M.aB i) (w:∀i:Nat,M.waits (i:Int)=false)
  (u:∀s,Hs G s (eJ G Cf m M::A.O3 G pa A0::aR p2 0 cs::L)->Dd 3 6 [] Q [pt p2 0 0,pt m 0 0,.bool ((List.range Cf.aD.toNat).all fun j=>(M.aB j).over)] s):
  ∀(f i:Nat) (h:AH),i+f=Cf.aD.toNat->Hs G h (eJ G Cf m M::A.O3 G pa A0::aR p2 0 cs::L)->Dd 3 4 [] Q [pt p2 0 0,pt m 0 0,pt pa 0 0,.bool ((List.range i).all fun j=>(M.aB j).over),I i] h:=by
 have y:=hC.1
 intro f
 induction f with
 |zero=>
  intro i h t a
  obtain rfl:i=Cf.aD.toNat:=by omega
  exact bW (aC (aC (ae p2 a c (aT (aab (u h a))))))
 |succ f x=>
  intro i h t a
  refine bW (aC (aC (ae p2 a c (aT (aae (bW ?_))))))
  refine Yo (M:=M) (k:=i) hC (by omega) a fun h a=>bV rfl (bV rfl (fA a fun r h a=>ap (b:=r) a fun h a=>?_))
  refine A.jx (m:=A0) hA (by rw[n];omega) a fun h a=>bV rfl (bV rfl (fA a fun g h a=>ap (b:=g) a fun h a=>?_))
  rw[q i (by omega)] at a
  refine cZ (aU (by simp) (cZ (aU (by simp) (an r a (l:=(M.aB i).core) rfl rfl (an g a (l:=(M.aB i).core) rfl rfl (jg (dO ?_)))))))
  refine Q1 (M:=M) d a fun h a=>?_
  rw[w]
  refine dO (bW ?_)
  have e:((List.range (i+1)).all fun j=>(M.aB j).over)=(((List.range i).all fun j=>(M.aB j).over)&&(M.aB i).over):=by rw[List.range_succ];simp
  have:=x (i+1) h (by omega) a.to
  rw[e] at this
  refine zW (fun p=>?_) (fun p=>?_)
  .rw[p] at this;exact aC (ae r a (v:= .bool (M.aB i).over) rfl (aad this))
  .rw[p] at this;exact aad this
theorem Xd {p2 p11:Nat} {pv wv ov vv:Value} {os:List Int} {t7:Bool} (g:A.wO G ov os) (E:os.length<=1000)
  (B:∀a c p,Hs G p (ls dT.enc 2 52 a c (os.map fun o=>⟨o,false⟩)::aR p2 0 (Hb Cf pv wv ov vv)::L)->Dd 3 8 [] Q [pt p2 0 0,pt m 0 0,.bool t7,I 10,pt p11 0 0,.slice a os.length c,I os.length] p):
  ∀(f i:Nat) (a:Option Addr) (c:Nat) (h:AH),i+f=os.length->Hs G h (ls dT.enc 2 52 a c ((os.take i).map fun o=>⟨o,false⟩)::aR p2 0 (Hb Cf pv wv ov vv)::L)->Dd 3 8 [] Q [pt p2 0 0,pt m 0 0,.bool t7,I 10,pt p11 0 0,.slice a i c,I i] h:=by
 intro f
 induction f with
 |zero=>
  intro i a c h z d
  obtain rfl:i=os.length:=by omega
  rw[List.take_length] at d
  exact B a c h d
 |succ f D=>
  intro i a c h z d
  obtain⟨y,s,_⟩:=jI (l:=os) (i:=i) (by omega)
  refine bW (aC (ae p2 d (v:=ov) rfl (B0 g (aT (aae (bW (aC (ae p2 d (v:=ov) rfl ?_))))))))
  have d:=A.kN g d
  refine pS d (x:=[I y]) (by simp[A.tV,s]) rfl ?_
  have d:=d.tail
  refine cQ (c:=dT.enc ⟨y,false⟩) rfl (cQ (c:=dT.enc ⟨y,false⟩) rfl (jG (W:=2) (n:=1) (c:=1) d rfl rfl rfl fun q h d=>?_))
  have d:=xO (enc:=dT.enc) (x:=(⟨y,false⟩:dT)) d
  have e:((os.take i).map fun o=>(⟨o,false⟩:dT)).length=i:=by rw[List.length_map,List.length_take];omega
  have:=tB (bytes:=16) (e:=52) (enc:=dT.enc) (l:=(os.take i).map fun o=>(⟨o,false⟩:dT)) (l2:=[⟨y,false⟩]) (a:=a) (c:=c) (a2:=some q) (c2:=1) (h:=h) (k:=fun r=>bB (A1 .add (I i) (I 1)) fun v=>Dd 3 8 [] Q [pt p2 0 0,pt m 0 0,.bool t7,I 10,pt p11 0 0,r.1,v] r.2) (d.cY (ls dT.enc 2 52 a c ((os.take i).map fun o=>(⟨o,false⟩:dT))) (ls dT.enc 2 52 (some q) 1 [⟨y,false⟩])) (by rw[e];simp;omega) fun t u p j=>?_
  .rw[e] at this;exact this
  .rw[List.length_append,e];refine aad ?_;have w:((os.take i).map fun o=>(⟨o,false⟩:dT))++[⟨y,false⟩]=(os.take (i+1)).map fun o=>⟨o,false⟩:=by rw[List.take_add_one,s];simp
   rw[w] at j
   exact D (i+1) t u p (by omega) j.to
end
end Go.Proofs.YtmhapehobfnoiaaGreatDoor
end
namespace Go.Proofs.YtmhapehobfnoiaaGreatDoor
open Go Go.Ab Go.Hm Go.At Go.Mc Go.Ct Go.Nt Go.Is
section
theorem w6 {a:Bool} {k:Value->Prop} (b:k (.bool true)):bB (T1 .eql (.bool a) (.bool a)) k:=⟨_,by cases a<;>rfl,b⟩
theorem km {a1 a2 a3 a4 a5:Option Addr} {a c2 c3 b c5 d n5:Nat}:oO (.agg ⟨Ef a1 a2 a3 a4 a5 a c2 c3 b c5 d n5⟩) (.agg ⟨Ef a1 a2 a3 a4 a5 a c2 c3 b c5 d n5⟩)=true:=Ku fun v c=>by
 simp only[List.mem_cons,List.mem_nil_iff,or_false] at c;rcases c with rfl|rfl|rfl|rfl|rfl<;>exact qv
set_option maxRecDepth 100000
attribute [local irreducible] bB Br ld1 A5 I7 Cd kT yC kI Xx qS zP Bo pT nL mH yV A1 Xb T1 P6 P5 Tb Uj Mx Tc W6 kQ tQ tE iB copyV kV V5 Vo W0 Ed iZ Rp Vn Uz lZ rG Ay yZ Cl C9 Ui qR qH iO eI bS bG
variable {G:Bg} {h:AH} {L L':List HP} {Q:Value->AH->Prop} {Cf:bA} {m:Nat} {M:bY}
theorem Qt {a1 a2 a3 a4 a5 e f a g b:Option Addr} {i c2 c3 j c5 d1 d2 d3 d4 d5 n d k:Nat} {es:List dT} {ws:List Ln} (l:es.length=n) (o:es.length=d) (p:ws.length=k) (q:n<=1000) (t:k<=1000)
  (s:Hs G h (ls dT.enc 2 52 a3 c3 es::ls dT.enc 2 52 a d3 es::ls gU 2 68 a5 c5 ws::ls gU 2 68 b d5 ws::L)) (r:∀c,Hs G c L->Q (.bool true) c):
  Cl Pr K 20 [.agg ⟨Ef a1 a2 a3 a4 a5 i c2 c3 j c5 n k⟩,.agg ⟨Ef e f a g b d1 d2 d3 d4 d5 d k⟩] h Q:=by
 subst l p
 rw[<-o]
 exact W4 q t s r
theorem X6 {p2 p11:Nat} {pv wv ov vv:Value} {os vs:List Int} {t7:Bool} {a a3 a5:Option Addr} {c c3 c5:Nat} (hC:Cf.Ok) (hG:Gb G) (n:A.wO G ov os) (r:A.wO G vv vs) (z:os.length=Cf.aG.toNat) (D:vs.length=Cf.lines*2)
  (g:bY.over Cf M=t7) (f:M.log=[]) (k:xw Cf M.jS) (hH:Za Cf M.home (2^30)) (e:M.bC.bX=os.map fun o=>⟨o,false⟩) (j:Ts vs (vs.length/2)=(List.range Cf.lines).map fun i=>(M.home i).2)
  (d:Hs G h (ls dT.enc 2 52 a c (os.map fun o=>⟨o,false⟩)::aR p2 0 (Hb Cf pv wv ov vv)::ls dT.enc 2 52 a3 c3 M.bC.bX::ls gU 2 68 a5 c5 ((List.range Cf.lines).map fun i=>(M.home i).2)::eJ G Cf m M::aR p11 0 (Ef none none a3 none a5 0 0 c3 0 c5 M.bC.bX.length Cf.lines)::L))
  (x:∀t,Q (.bool true) t):Dd 3 8 [] Q [pt p2 0 0,pt m 0 0,.bool t7,I 10,pt p11 0 0,.slice a os.length c,I os.length] h:=by
 have w:=hC.2.1
 have y:=bA.eO hC
 have hE:M.bC.bX.length=os.length:=by rw[e,List.length_map]
 have u:((List.range Cf.lines).map fun i=>(M.home i).2).length=Cf.lines:=by simp
 refine bW (aC (ae p2 d (v:=ov) rfl (B0 n (aT (aab (iN d fun H h d=>mW (cR rfl (jc (Cf:=Cf) (M:=M) hC hG k hH d fun h d=>?_))))))))
 rw[g]
 refine w6 (iM (lu (Cf:=Cf) (M:=M) d fun h d=>?_))
 rw[f]
 refine mW (cR rfl (Sr (Cf:=Cf) (M:=M) (by rw[f];decide) d fun E ce h d=>?_))
 rw[f]
 refine bU (mW (cR rfl (an p11 d (l:=Ef none none a3 none a5 0 0 c3 0 c5 M.bC.bX.length Cf.lines) rfl rfl (aC (ae p2 d (v:=vv) rfl (dz r (by omega) d fun am s h d=>?_))))))
 rw[show vs.length/2=Cf.lines by omega] at d ⊢
 rw[show Ts vs Cf.lines=(List.range Cf.lines).map fun i=>(M.home i).2 by rw[<-j,show vs.length/2=Cf.lines by omega]] at d
 refine cQ (c:=Ef none none a none am 0 0 c 0 s os.length Cf.lines) rfl ?_
 rw[<-e] at d
 have p:=d.cY (ls gU 2 68 a5 c5 ((List.range Cf.lines).map fun i=>(M.home i).2)) (ls gU 2 68 am s ((List.range Cf.lines).map fun i=>(M.home i).2))
 have q:=p.cY (ls dT.enc 2 52 a3 c3 M.bC.bX) (ls dT.enc 2 52 a c M.bC.bX)
 refine Qt (es:=M.bC.bX) (ws:=(List.range Cf.lines).map fun i=>(M.home i).2) rfl hE u (by omega) (by omega) q fun F B=>iM (xL (Kg x8 (Kg ?_ (Kg qv (x _)))))
 exact an p11 d (l:=Ef none none a3 none a5 0 0 c3 0 c5 M.bC.bX.length Cf.lines) rfl rfl km
theorem E8 {pv wv ov vv:Value} {ps:List (List Ins)} {ws os vs:List Int} (y:ps.length<=9223372036854775807) (hG:Gb G) (q:Ob G 1 rT) (g:A.dq G pv wv ov vv ps ws os vs) (d:Hs G h L)
  (r:∀w,Q (.bool true) w):Cl Pr K 3 [.agg ⟨Hb Cf pv wv ov vv⟩] h Q:=by
 refine cW (fZ (cs:=Hb Cf pv wv ov vv) d fun f h d=>an f d (l:=Hb Cf pv wv ov vv) rfl rfl ?_)
 refine tn y g d (fun O h d=>gM (uK (iM (bW ?_)))) (fun h d=>gM (uK (dO (xL (r _)))))
 have n:ps.length<=1000/\ws.length<1000/\os.length<1000:=by omega
 refine an f d (l:=Hb Cf pv wv ov vv) rfl rfl (qj (Cf:=Cf) n hG q g d (fun p h d=>?_) fun p m h d=>?_)
 .refine bV rfl (bV rfl (aC (an f d (l:=Cf.enc) rfl rfl (aC (ae f d rfl (aC (ae f d rfl (aC (ae f d rfl (aC (ae f d rfl ?_)))))))))));refine A.Q8 (C:=Cf) n hG.lim q g d (fun e h d=>?_) (fun e=>(p e).elim);exact bV rfl (bV rfl (cZ (cR e (ju (iM (mW (cR rfl (xL (r _)))))))))
 refine bV rfl (bV rfl (aC (an f d (l:=Cf.enc) rfl rfl (aC (ae f d rfl (aC (ae f d rfl (aC (ae f d rfl (aC (ae f d rfl ?_)))))))))))
 refine A.Q8 (C:=Cf) n hG.lim q g d (fun e=>(e p).elim) (fun _ s h d=>?_)
 refine bV rfl (bV rfl (cZ (aab (bW ?_))))
 refine fM (dO (cZ (aab (fM (dO (bW ?_))))))
 obtain⟨hC,B,D,t,u,E,F,H⟩:=K3 p
 have J:=hC.1
 have hA:=oh p
 have d:Hs G h (eJ G Cf m (MC.new ⟨Cf,ps,ws,os,vs⟩)::A.O3 G s (Qf Cf ps ws os vs)::aR f 0 (Hb Cf pv wv ov vv)::L):=d.to
 refine Wv (m:=m) (p2:=f) (pa:=s) (M:=MC.new ⟨Cf,ps,ws,os,vs⟩) (cs:=Hb Cf pv wv ov vv) (A0:=Qf Cf ps ws os vs) (L:=L) hC hA.inv.bC rfl (A.lx p) rfl (fun i _=>rfl) (fun i=>rfl) (fun h d=>?_) Cf.aD.toNat 0 h (by omega) d
 refine bW (aC (aC (ae f d (v:=I Cf.aD) rfl (Oq (M:=MC.new ⟨Cf,ps,ws,os,vs⟩) hC d fun h d=>?_))))
 unfold bY.core
 rw[aaa]
 dsimp only
 refine bV rfl (bV rfl (fA d fun z h d=>ap (b:=z) d fun h d=>?_))
 refine a8 (M:=MC.new ⟨Cf,ps,ws,os,vs⟩) hC hG.lim (fun _ _=>rfl) (fun _=>rfl) (fun _ _=>rfl) (by rw[Po,List.length_map,t]) d fun a3 c3 a5 c5 h d=>fA d fun j h d=>ap (b:=j) d fun h d=>?_
 have d:=mR (enc:=dT.enc) (e:=52) d
 have x:=bA.eO hC
 have k:(MC.new ⟨Cf,ps,ws,os,vs⟩).bC.bX=os.map fun o=>⟨o,false⟩:=Po
 have d:Hs G h (ls dT.enc 2 52 none 0 ((os.take 0).map fun o=>⟨o,false⟩)::aR f 0 (Hb Cf pv wv ov vv)::ls dT.enc 2 52 a3 c3 (MC.new ⟨Cf,ps,ws,os,vs⟩).bC.bX::ls gU 2 68 a5 c5 ((List.range Cf.lines).map fun i=>((MC.new ⟨Cf,ps,ws,os,vs⟩).home i).2)::eJ G Cf m (MC.new ⟨Cf,ps,ws,os,vs⟩)::aR j 0 (Ef none none a3 none a5 0 0 c3 0 c5 (MC.new ⟨Cf,ps,ws,os,vs⟩).bC.bX.length Cf.lines)::L):=by
  rw[List.take_zero];exact(d.to:Hs G h (ls dT.enc 2 52 none 0 []::aR f 0 (Hb Cf pv wv ov vv)::ls dT.enc 2 52 a3 c3 (MC.new ⟨Cf,ps,ws,os,vs⟩).bC.bX::ls gU 2 68 a5 c5 ((List.range Cf.lines).map fun i=>((MC.new ⟨Cf,ps,ws,os,vs⟩).home i).2)::eJ G Cf m (MC.new ⟨Cf,ps,ws,os,vs⟩)::aR j 0 (Ef none none a3 none a5 0 0 c3 0 c5 (MC.new ⟨Cf,ps,ws,os,vs⟩).bC.bX.length Cf.lines)::L))
 refine Xd (Cf:=Cf) (m:=m) (p2:=f) (p11:=j) (pv:=pv) (wv:=wv) (ov:=ov) (vv:=vv) (os:=os) g.os (by omega) (fun a c h d=>?_) os.length 0 none 0 h (by omega) d
 exact X6 (M:=MC.new ⟨Cf,ps,ws,os,vs⟩) (L:=L) hC hG g.os g.vs t u Y7 rfl hA.inv.jS.len (hA.inv.home.h (by omega)) k (Wu u) d r
end
end Go.Proofs.YtmhapehobfnoiaaGreatDoor
