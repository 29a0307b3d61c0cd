/- A part of the proof. -/
import Derived.Test.YtmhapehobfnoiaaGreatDoorS15
import Derived.Test.YtmhapehobfnoiaaGreatDoorS11
import Derived.Test.YtmhapehobfnoiaaGreatDoorS14
namespace Go.Pc
open Go Go.Ab Go.Hm Go.Ct
section
variable {n ways:Nat} {S:Nat->List Th} {no:Int} {x:pW} {s:iH} {C:bN} {core:Int}
def cK (n:Nat) (s:iH) (l:Nat):CL where
 st:=if(bB n s.S l).2=0 then(bB n s.S l).1.st else 0
 d:=if(bB n s.S l).2=0 then(bB n s.S l).1.d else(0,0)
 pL:=s.D7&&decide (s.al=l)
 aw:=s.D7&&decide (s.al=l)&&s.aw
 gi:=s.sU&&decide (s.gl=l)
 gs:=if s.sU=true/\s.gl=l then s.gc.st else 0
 gd:=if s.sU=true/\s.gl=l then s.gc.d else(0,0)
theorem E0 {l:Nat}:(cK n s l).st=if(bB n s.S l).2=0 then(bB n s.S l).1.st else 0:=rfl
theorem xn {l:Nat}:(cK n s l).d=if(bB n s.S l).2=0 then(bB n s.S l).1.d else(0,0):=rfl
theorem aBs {l:Nat}:(cK n s l).gs=if s.sU=true/\s.gl=l then s.gc.st else 0:=rfl
theorem aB6 {l:Nat}:(cK n s l).gd=if s.sU=true/\s.gl=l then s.gc.d else(0,0):=rfl
theorem Qv {l:Int} {L:List Th} (h:l≠no):Go.Ct.get l (rem no L)=Go.Ct.get l L:=by
 induction L with
 |nil=>rfl
 |cons t L a=>
  unfold rem;split;rename_i e;unfold Go.Ct.get;grind;unfold Go.Ct.get at a ⊢;grind
theorem aAk {l:Int} {L:List Th} (h:l≠no):Go.Ct.get l (L++[(no,x)])=Go.Ct.get l L:=by
 unfold Go.Ct.get;grind
theorem Jj {l:Int} {L:List Th} {m:Nat} (h:setOf n l=m->Go.Ct.get l L=Go.Ct.get l (S m)):bB n (aX S m L) l=bB n S l:=by
 unfold bB;split;rfl;by_cases e:setOf n l=m;rw[e,fB,h e];rw[cX e]
theorem kI {l:Int} (h:l≠no):bB n (gB n S no) l=bB n S l:=by
 unfold gB;split;rfl;exact Jj fun _=>Qv h
theorem kM {l:Int} (h:l≠no):bB n (kK n ways S no x).1 l=bB n S l:=by
 unfold kK;split;exact Jj fun _=>Qv h;exact Jj fun _=>by rw[aAk h,Qv h]
theorem Cw {l:Int} (h:l≠no):bB n (yW n ways S no) l=bB n S l:=by
 unfold yW;split;rw[kM h,kI h];exact kI h
theorem Fv (a:∀i,mC ways (S i)) (b:0<=no):(bB n (gB n S no) no).2=12:=by
 unfold gB;rw[aab];unfold bB;rw[aab,fB,Yz (Ia (a _).nd)]
theorem Jo {i:Nat}:(gB n S no i).length<=(S i).length:=by
 unfold gB;split;exact Nat.le_refl _;unfold aX;split;rename_i e;subst e;exact uO.length_le;grind
theorem Y9 {i:Nat} (b:(bB n S no).2=0):((kK n ways S no x).1 i).length<=(S i).length:=by
 obtain⟨a,d⟩:=oM b;have:=Kb a;unfold kK;split;unfold aX;grind;unfold aX;grind
theorem P2 (f:∀i,mC ways (S i)) {i:Nat} (a:(bB n S no).2=0):(yW n ways S no i).length<=(S i).length:=by
 obtain⟨b,d⟩:=oM a;have g:=Kb b;unfold yW;rw[aKj a];unfold kK;have e:rem no (gB n S no (setOf n no))=rem no (S (setOf n no)):=by rw[Pn d,Ze (f _).nd]
 rw[e];split;unfold aX;dsimp only;split;grind;exact Jo;unfold aX;dsimp only;split;grind;exact Jo
theorem Zz (d:(bB n S no).2=0):(gB n S no (setOf n no)).length<(S (setOf n no)).length:=by
 obtain⟨a,b⟩:=oM d;rw[Pn b];exact Kb a
structure Room (C:bN) (s:iH):Prop where
 al:s.D7=true->(0<=s.al/\s.al<C.lines)/\((bB C.aG.toNat s.S s.al).2=0\/(s.S (setOf C.aG.toNat s.al)).length<C.ways.toNat)
 gl:s.sU=true->0<=s.gl/\s.gl<C.lines
 bd:∀l,(bB C.aG.toNat s.S l).2=0->l<C.lines
theorem Ls {l:Int}:(bB n iH.new.S l).2≠0:=by
 unfold bB iH.new Go.Ct.get;split<;>simp
theorem Room.new:Room C iH.new:=⟨(fun e=>by cases e),(fun e=>by cases e),fun _ e=>absurd e Ls⟩
theorem ir {l a o:Int} (g:gU C s) (h:Room C s):Room C (oK C s l a o):=by
 unfold oK;split
 .rename_i i;have f:=(tE i).2.2.1;refine⟨fun e=>⟨(h.al e).1,?_⟩,h.gl,fun k j=>?_⟩;rotate_left;by_cases b:k=l;rw[b];exact(tE i).1.2;exact h.bd k (by rw[<-j];exact(congrArg Prod.snd (Cw b)).symm);rcases(h.al e).2 with d|d;left;by_cases b:s.al=l;show(bB C.aG.toNat (yW C.aG.toNat C.ways.toNat s.S l) s.al).2=0;rw[b,Em g.aG f];exact f;show(bB C.aG.toNat (yW C.aG.toNat C.ways.toNat s.S l) s.al).2=0;rw[Cw b];exact d;right;exact Nat.lt_of_le_of_lt (P2 g.aG f) d
 exact h
theorem V4 {l a o v:Int} (g:gU C s) (h:Room C s):Room C (kC C s l a o v):=by
 unfold kC;split
 .rename_i f;have i:=(tE f).2.2.1;refine⟨fun e=>⟨(h.al e).1,?_⟩,h.gl,fun k j=>?_⟩;rotate_left;by_cases b:k=l;rw[b];exact(tE f).1.2;exact h.bd k (by rw[<-j];exact(congrArg Prod.snd (kM b)).symm);rcases(h.al e).2 with d|d;left;show(bB C.aG.toNat (kK C.aG.toNat C.ways.toNat s.S l _).1 s.al).2=0;by_cases b:s.al=l;rw[b,A3 g.aG (tE f).1.1 (Ag g.aG i)];rw[kM b];exact d;right;exact Nat.lt_of_le_of_lt (Y9 i) d
 exact h
theorem zx {l a g:Int} {k:Nat} (b:gU C s):cK C.aG.toNat (oK C s l a g) k=cK C.aG.toNat s k:=by
 unfold oK;split;rename_i f;have d:=(tE f).2.2.1;unfold cK;have:bB C.aG.toNat (yW C.aG.toNat C.ways.toNat s.S l) k=bB C.aG.toNat s.S k:=by
  by_cases e:(k:Int)=l;rw[e];exact Em b.aG d;exact Cw e
 simp only[this];rfl
theorem Wh {l a b v:Int} {k:Nat} (h:(k:Int)≠l):cK C.aG.toNat (kC C s l a b v) k=cK C.aG.toNat s k:=by
 unfold kC;split;unfold cK;simp only[kM h];rfl
theorem mu {a j v:Int} {k:Nat} (g:gU C s) (i:oE C s.S k a j true=0):
  ((cK C.aG.toNat s k).st=2\/(cK C.aG.toNat s k).st=4)/\cK C.aG.toNat (kC C s k a j v) k={cK C.aG.toNat s k with st:=4,d:=rz (cK C.aG.toNat s k).d a v}:=by
 have b:=tE i
 have e:=b.2.2.1
 have f:(cK C.aG.toNat s k).st=(bB C.aG.toNat s.S k).1.st:=by rw[E0,aKj e]
 constructor
 .rw[f];have:=b.2.2.2;unfold mM vA at this;simpa using this
 .unfold kC;rw[aKj i];unfold cK;have:=A3 (ways:=C.ways.toNat) (x:=xN C.aG.toNat s.S k a v) g.aG b.1.1 (Ag g.aG e);simp only[this,e,if_true];rfl
theorem ff {nt:aH} (b:nt.kind=9) {k:Nat} (f:nt.line=k) (d:k<C.lines) (a:(cK C.aG.toNat s k).pL=true):
  fQ C core s nt=({s with al:=0,aw:=false,D7:=false},[],0)/\cK C.aG.toNat {s with al:=0,aw:=false,D7:=false} k={cK C.aG.toNat s k with pL:=false,aw:=false}/\
   ∀j:Nat,j≠k->cK C.aG.toNat {s with al:=0,aw:=false,D7:=false} j=cK C.aG.toNat s j:=by
 have a:s.D7=true/\s.al=k:=by unfold cK at a;simpa using a
 refine⟨?_,?_,?_⟩
 .unfold fQ;rw[aab,aKj b,aKi (by unfold sA;simp;omega)];unfold Et;grind
 .unfold cK;simp
 .intro j e;unfold cK;have:decide (s.al=(j:Int))=false:=decide_eq_false (by omega);simp[this]
theorem Ui {nt:aH} (b:nt.kind=10) {k:Nat} (f:nt.line=k) (d:k<C.lines) (a:(cK C.aG.toNat s k).gi=true):
  fQ C core s nt=({s with gl:=0,gc:=pW.zero,sU:=false},[],0)/\cK C.aG.toNat {s with gl:=0,gc:=pW.zero,sU:=false} k={cK C.aG.toNat s k with gi:=false,gs:=0,gd:=(0,0)}/\
   ∀j:Nat,j≠k->cK C.aG.toNat {s with gl:=0,gc:=pW.zero,sU:=false} j=cK C.aG.toNat s j:=by
 have a:s.sU=true/\s.gl=k:=by unfold cK at a;simpa using a
 refine⟨?_,?_,?_⟩
 .unfold fQ;rw[aab,aab,aKj b,aKi (by unfold sA;simp;omega)];unfold sP;grind
 .unfold cK;simp
 .intro j e;unfold cK;grind
theorem Wl {nt:aH} (y:nt.kind=8) {k:Nat} (g:nt.line=k) (A:k<C.lines) (o:gU C s) (q:Room C s) (a:(cK C.aG.toNat s k).pL=true) (_B:1<=nt.state/\nt.state<=4):
  ∃b,fQ C core s nt=(b,[⟨4,core,nt.line,0,0,0,0,false,0⟩],0)/\b={s with S:=b.S,al:=0,aw:=false,D7:=false}/\
   cK C.aG.toNat b k={cK C.aG.toNat s k with st:=nt.state,d:=if(cK C.aG.toNat s k).st≠0 then(cK C.aG.toNat s k).d else(nt.d0,nt.d1),pL:=false,aw:=false}/\
   (∀j:Nat,j≠k->cK C.aG.toNat b j=cK C.aG.toNat s j)/\Room C b:=by
 have a:s.D7=true/\s.al=k:=by unfold cK at a;simpa using a
 have f:(kK C.aG.toNat C.ways.toNat s.S nt.line (iY C s nt)).2=0:=by
  rcases(q.al a.1).2 with h|h;rw[a.2,<-g] at h;exact Ag o.aG h;rw[a.2,<-g] at h;unfold kK;have:=uO (no:=nt.line) (l:=s.S (setOf C.aG.toNat nt.line));grind
 have i:=A3 (ways:=C.ways.toNat) (x:=iY C s nt) o.aG (by omega:0<=nt.line) f
 refine⟨{s with S:=(kK C.aG.toNat C.ways.toNat s.S nt.line (iY C s nt)).1,al:=0,aw:=false,D7:=false},?_,rfl,?_,?_,(fun e=>by cases e),q.gl,fun j t=>?_⟩
 .unfold fQ;rw[aKj y,aKi (by unfold sA;simp;omega)];unfold vE;grind
 .unfold cK;rw[g] at i ⊢;simp only[i,if_true];have e:(iY C s nt).d=if(bB C.aG.toNat s.S k).2=0 then(bB C.aG.toNat s.S k).1.d else(nt.d0,nt.d1):=by unfold iY;rw[g]
  rw[e]
  by_cases p:(bB C.aG.toNat s.S k).2=0
  .have:=qX o.aG p;have v:(bB C.aG.toNat s.S k).1.st≠0:=by omega
   simp[iY,p,v]
  .simp[iY,p]
 .intro j t;unfold cK;have w:decide (s.al=(j:Int))=false:=decide_eq_false (by omega);rw[g];simp only[kM (show(j:Int)≠(k:Int) by omega),w];simp
 .by_cases u:j=nt.line
  .omega
  .exact q.bd j (by rw[<-t];exact(congrArg Prod.snd (kM u)).symm)
theorem Ws {nt:aH} (W:nt.kind=11) {k:Nat} (o:nt.line=k) (Y:k<C.lines) (w:gU C s) (i:Room C s) (α:nt.state=0\/nt.state=1)
  (T:(cK C.aG.toNat s k).st≠0\/((cK C.aG.toNat s k).st=0/\(cK C.aG.toNat s k).gi=true)):
  ∃f y,fQ C core s nt=(f,[y],0)/\f.al=s.al/\f.aw=s.aw/\f.D7=s.D7/\f.gl=s.gl/\f.sU=s.sU/\Room C f/\
   (y.kind=5/\y.core=core/\y.line=k/\y.world=0/\y.no=0/\∀σ δ,σ=(if(cK C.aG.toNat s k).st≠0 then(cK C.aG.toNat s k).st else(cK C.aG.toNat s k).gs)->δ=(if(cK C.aG.toNat s k).st≠0 then(cK C.aG.toNat s k).d else(cK C.aG.toNat s k).gd)->
    y.state=gC σ nt.state/\(y.jX=true↔σ=3\/σ=4)/\(y.jX=true->(y.d0,y.d1)=δ))/\
   ((cK C.aG.toNat f k).pL=(cK C.aG.toNat s k).pL/\(cK C.aG.toNat f k).aw=(cK C.aG.toNat s k).aw/\(cK C.aG.toNat f k).gi=(cK C.aG.toNat s k).gi/\(cK C.aG.toNat f k).gd=(cK C.aG.toNat s k).gd)/\
   ((cK C.aG.toNat s k).st≠0->(cK C.aG.toNat f k).st=gC (cK C.aG.toNat s k).st nt.state/\((cK C.aG.toNat f k).st≠0->(cK C.aG.toNat f k).d=(cK C.aG.toNat s k).d)/\(cK C.aG.toNat f k).gs=(cK C.aG.toNat s k).gs)/\
   ((cK C.aG.toNat s k).st=0->(cK C.aG.toNat f k).st=0/\(cK C.aG.toNat f k).gs=gC (cK C.aG.toNat s k).gs nt.state)/\
   (∀j:Nat,j≠k->cK C.aG.toNat f j=cK C.aG.toNat s j):=by
 have u:∀(x:pW),(gS core nt x).kind=5/\(gS core nt x).core=core/\(gS core nt x).line=nt.line/\(gS core nt x).world=0/\(gS core nt x).no=0/\(gS core nt x).state=gC x.st nt.state/\((gS core nt x).jX=true↔x.st=3\/x.st=4)/\((gS core nt x).jX=true->((gS core nt x).d0,(gS core nt x).d1)=x.d):=fun x=>by
  unfold gS;split;refine⟨rfl,rfl,rfl,rfl,rfl,rfl,?_,fun _=>rfl⟩;show jH x.st=true↔_;unfold jH;simp;rename_i e;refine⟨rfl,rfl,rfl,rfl,rfl,rfl,?_,fun e=>by cases e⟩;show false=true↔_;unfold C6 at e;grind
 have ht:fQ C core s nt=oA C core s nt:=by
  unfold fQ;rw[aab,aab,aab,aKj W,aKi (by unfold sA;simp;omega)]
 rw[ht]
 unfold oA
 rw[aab]
 by_cases t:(bB C.aG.toNat s.S nt.line).2=0
 .rw[aKj t];have O:=qX w.aG t;have p:(bB C.aG.toNat s.S k).2=0:=by rw[<-o];exact t
  have d:(cK C.aG.toNat s k).st=(bB C.aG.toNat s.S nt.line).1.st:=by rw[E0,aKj p,o]
  have F:(cK C.aG.toNat s k).d=(bB C.aG.toNat s.S nt.line).1.d:=by rw[xn,aKj p,o]
  have E:(cK C.aG.toNat s k).st≠0:=by rw[d];omega
  have b:=u (bB C.aG.toNat s.S nt.line).1
  have U:∀v:Nat->List Th,({s with S:=v}:iH).al=s.al:=fun _=>rfl
  have a:∀v:Nat->List Th,(cK C.aG.toNat {s with S:=v} k).pL=(cK C.aG.toNat s k).pL/\(cK C.aG.toNat {s with S:=v} k).aw=(cK C.aG.toNat s k).aw/\(cK C.aG.toNat {s with S:=v} k).gi=(cK C.aG.toNat s k).gi/\(cK C.aG.toNat {s with S:=v} k).gd=(cK C.aG.toNat s k).gd/\(cK C.aG.toNat {s with S:=v} k).gs=(cK C.aG.toNat s k).gs:=fun _=>⟨rfl,rfl,rfl,rfl,rfl⟩
  by_cases I:gC (bB C.aG.toNat s.S nt.line).1.st nt.state=0
  .simp only[aKj I];refine⟨_,_,rfl,rfl,rfl,rfl,rfl,rfl,⟨fun e=>⟨(i.al e).1,?_⟩,i.gl,fun j A=>?_⟩,⟨b.1,b.2.1,by rw[b.2.2.1,o],b.2.2.2.1,b.2.2.2.2.1,fun σ δ R P=>?_⟩,⟨(a _).1,(a _).2.1,(a _).2.2.1,(a _).2.2.2.1⟩,fun _=>⟨?_,fun J=>?_,(a _).2.2.2.2⟩,fun e=>absurd e E,fun j A=>?_⟩
   .by_cases q:s.al=nt.line
    .right;show(gB C.aG.toNat s.S nt.line (setOf C.aG.toNat s.al)).length<_;rw[q];exact Nat.lt_of_lt_of_le (Zz t) (w.aG _).len
    .rcases(i.al e).2 with h|h
     .left;show(bB C.aG.toNat (gB C.aG.toNat s.S nt.line) s.al).2=0;rw[kI q];exact h
     .right;exact Nat.lt_of_le_of_lt Jo h
   .by_cases q:j=nt.line
    .omega
    .exact i.bd j (by rw[<-A];exact(congrArg Prod.snd (kI q)).symm)
   .grind
   .rw[d,I];rw[E0,aKi];show ¬(bB C.aG.toNat (gB C.aG.toNat s.S nt.line) k).2=0;rw[<-o,Fv w.aG (by omega)];decide
   .exfalso;apply J;rw[E0,aKi];show ¬(bB C.aG.toNat (gB C.aG.toNat s.S nt.line) k).2=0;rw[<-o,Fv w.aG (by omega)];decide
   .unfold cK;simp only[kI (show(j:Int)≠nt.line by omega)]
  .simp only[aKi I];have Z:=A3 (ways:=C.ways.toNat) (x:={(bB C.aG.toNat s.S nt.line).1 with st:=gC (bB C.aG.toNat s.S nt.line).1.st nt.state}) w.aG (by omega:0<=nt.line) (Ag w.aG t);refine⟨_,_,rfl,rfl,rfl,rfl,rfl,rfl,⟨fun e=>⟨(i.al e).1,?_⟩,i.gl,fun j A=>?_⟩,⟨b.1,b.2.1,by rw[b.2.2.1,o],b.2.2.2.1,b.2.2.2.2.1,fun σ δ R P=>?_⟩,⟨(a _).1,(a _).2.1,(a _).2.2.1,(a _).2.2.2.1⟩,fun _=>⟨?_,fun J=>?_,(a _).2.2.2.2⟩,fun e=>absurd e E,fun j A=>?_⟩
   .by_cases q:s.al=nt.line
    .grind
    .rcases(i.al e).2 with h|h
     .left;show(bB C.aG.toNat (kK C.aG.toNat C.ways.toNat s.S nt.line _).1 s.al).2=0;rw[kM q];exact h
     .right;exact Nat.lt_of_le_of_lt (Y9 t) h
   .by_cases q:j=nt.line
    .omega
    .exact i.bd j (by rw[<-A];exact(congrArg Prod.snd (kM q)).symm)
   .grind
   .rw[d,E0];grind
   .rw[F,xn];grind
   .unfold cK;simp only[kM (show(j:Int)≠nt.line by omega)]
 .rw[aKi t];have p:¬(bB C.aG.toNat s.S k).2=0:=by rw[<-o];exact t
  have d:(cK C.aG.toNat s k).st=0:=by rw[E0,aKi p]
  have g:s.sU=true/\s.gl=k:=by
   rcases T with h|h;exact absurd d h;have:=h.2;unfold cK at this;simpa using this
  rw[aKi (by rw[g.1];simp),aab]
  have b:=u s.gc
  have D:(cK C.aG.toNat s k).gs=s.gc.st:=by rw[aBs,aKj g]
  have B:(cK C.aG.toNat s k).gd=s.gc.d:=by rw[aB6,aKj g]
  refine⟨_,_,rfl,rfl,rfl,rfl,rfl,rfl,⟨i.al,i.gl,i.bd⟩,⟨b.1,b.2.1,by rw[b.2.2.1,o],b.2.2.2.1,b.2.2.2.2.1,fun σ δ R P=>?_⟩,⟨rfl,rfl,rfl,?_⟩,fun e=>absurd d e,fun _=>⟨d,?_⟩,fun j A=>?_⟩
  .grind
  .rw[B,aB6,aKj (show s.sU=true/\s.gl=k from g)]
  .rw[D,aBs,aKj (show s.sU=true/\s.gl=k from g)]
  .unfold cK;grind
end
section
variable {C:bN} {H:lT} {X:Nat->iH} {V:Nat->Ln} {N N':List aH} {n:aH} {s:iH}
def PK (k:Int):Prop:=(1<=k/\k<=5)\/(8<=k/\k<=11)
instance (k:Int):Decidable (PK k):=by unfold PK;infer_instance
def lnN (l:Nat) (n:aH):Bool:=decide (n.line=(l:Int)/\PK n.kind)
def Dn (l:Nat) (N:List aH):List aH:=N.filter (lnN l)
theorem Jk {l:Nat} (h:n.line=(l:Int)) (a:PK n.kind):Dn l (n::N)=n::Dn l N:=by
 unfold Dn;rw[List.filter_cons_of_pos (by unfold lnN;grind)]
theorem F4 {l:Nat} (h:¬(n.line=(l:Int)/\PK n.kind)):Dn l (n::N)=Dn l N:=by
 unfold Dn;rw[List.filter_cons_of_neg (by unfold lnN;grind)]
theorem Co {l:Nat}:Dn l (N++N')=Dn l N++Dn l N':=List.filter_append N N'
theorem yd {l:Nat} (h:∀x∈N,x.line=(l:Int)/\PK x.kind):Dn l N=N:=List.filter_eq_self.2 fun x a=>decide_eq_true (h x a)
theorem U7 {l:Nat} (h:∀x∈N,¬(x.line=(l:Int)/\PK x.kind)):Dn l N=[]:=List.filter_eq_nil_iff.2 fun x a=>by unfold lnN;grind
theorem zt {l:Nat} {x:aH}:x∈Dn l N↔x∈N/\x.line=(l:Int)/\PK x.kind:=by unfold Dn lnN;grind
abbrev cls (C:bN) (X:Nat->iH) (l:Nat):ui:=fun i=>cK C.aG.toNat (X i) l
structure nG (C:bN) (H:lT) (X:Nat->iH) (V:Nat->Ln) (N:List aH):Prop where
 line:∀l:Nat,l<C.lines->Inv l (H l).1 (H l).2 (V l) (cls C X l) (Dn l N)
 uD:∀i:Nat,i<4->gU C (X i)
 room:∀i:Nat,i<4->Room C (X i)
 new:∀i:Nat,C.aD<=(i:Int)->X i=iH.new
 nb:∀x∈N,PK x.kind->(0<=x.core/\x.core<C.aD)/\(0<=x.line/\x.line<C.lines)
theorem qj {n l:Nat}:cK n iH.new l=⟨0,(0,0),false,false,false,0,(0,0)⟩:=by
 unfold cK;rw[aKi Ls,aKi Ls];rfl
theorem wY {i l:Nat} {s:iH}:cls C (aX X i s) l=aX (cls C X l) i (cK C.aG.toNat s l):=by
 funext j;show cK C.aG.toNat (aX X i s j) l=_;by_cases e:j=i;subst e;rw[fB,fB];rw[cX e,cX e]
theorem rP {i l:Nat} {s:iH} (h:cK C.aG.toNat s l=cK C.aG.toNat (X i) l):cls C (aX X i s) l=cls C X l:=by
 funext j;show cK C.aG.toNat (aX X i s j) l=_;by_cases e:j=i;subst e;rw[fB];exact h;rw[cX e]
theorem nG.perm (h:nG C H X V N) (p:N.Perm N'):nG C H X V N':=
 ⟨fun l a=>(h.line l a).perm (p.filter _),h.uD,h.room,h.new,fun x b=>h.nb x (p.symm.mem_iff.1 b)⟩
theorem nG.skip (h:nG C H X V (n::N)) (a:¬PK n.kind):nG C H X V N:=
 ⟨fun l b=>by have:=h.line l b;rw[F4 (fun e=>a e.2)] at this;exact this,h.uD,h.room,h.new,fun x d=>h.nb x (List.mem_cons_of_mem _ d)⟩
theorem nG.more (h:nG C H X V N) (b:∀x∈N',¬PK x.kind):nG C H X V (N'++N):=
 ⟨fun l d=>by have:=h.line l d;rw[Co,U7 (fun x a e=>b x a e.2)];exact this,h.uD,h.room,h.new,fun x a f=>by
  rcases List.mem_append.1 a with a|a;grind;exact h.nb x a f⟩
theorem nG.i4 (hC:C.Ok) {i:Int} (h:0<=i/\i<C.aD):i.toNat<4/\((i.toNat:Nat):Int)=i:=by
 unfold bN.Ok at hC;omega
theorem nG.lF {k:Nat} {d:lT} {b:Nat->iH} {V':Nat->Ln} {A:List aH} (h:nG C H X V N) (D:k<C.lines)
  (p:Inv k (d k).1 (d k).2 (V' k) (cls C b k) (A++Dn k N')) (v:∀l,l≠k->d l=H l) (w:∀l,l≠k->V' l=V l) (y:∀l,l≠k->cls C b l=cls C X l)
  (hA:∀x∈A,x.line=(k:Int)/\PK x.kind/\0<=x.core/\x.core<C.aD) (j:∀l,l≠k->Dn l N'=Dn l N) (f:∀x∈N',x∈N)
  (o:∀i:Nat,i<4->gU C (b i)) (u:∀i:Nat,i<4->Room C (b i)) (q:∀i:Nat,C.aD<=(i:Int)->b i=iH.new):nG C d b V' (A++N'):=by
 refine⟨fun l g=>?_,o,u,q,fun x a t=>?_⟩
 .by_cases e:l=k
  .subst e;rw[Co,yd (fun x a=>⟨(hA x a).1,(hA x a).2.1⟩)];exact p
  .rw[v l e,w l e,y l e,Co,U7 (fun x a B=>e (by grind)),List.nil_append,j l e];exact h.line l g
 .rcases List.mem_append.1 a with a|a
  .grind
  .exact h.nb x (f x a) t
theorem rE {i:Nat} {s:iH} (h:nG C H X V N) (a:gU C s):∀j:Nat,j<4->gU C (aX X i s j):=fun j b=>by
 by_cases e:j=i;subst e;rw[fB];exact a;rw[cX e];exact h.uD j b
theorem rO {i:Nat} {s:iH} (h:nG C H X V N) (a:Room C s):∀j:Nat,j<4->Room C (aX X i s j):=fun j b=>by
 by_cases e:j=i;subst e;rw[fB];exact a;rw[cX e];exact h.room j b
theorem uH {i:Nat} {s:iH} (h:nG C H X V N) (b:(i:Int)<C.aD):∀j:Nat,C.aD<=(j:Int)->aX X i s j=iH.new:=fun j a=>by
 rw[cX (by omega)];exact h.new j a
theorem nG.cache (h:nG C H X V (n::N)) (hC:C.Ok) (hk:8<=n.kind/\n.kind<=11):
  ∃w out,fQ C n.core (X n.core.toNat) n=(w,out,0)/\nG C H (aX X n.core.toNat w) V (out++N)/\(∀x∈out,x.line=n.line/\PK x.kind):=by
 have hb:=h.nb n (by simp) (.inr hk)
 obtain⟨T,U⟩:=nG.i4 hC hb.1
 obtain⟨i,o,p⟩:∃i:Nat,i<4/\n.core=(i:Int):=⟨n.core.toNat,T,U.symm⟩
 obtain⟨k,d,g⟩:∃k:Nat,k<C.lines/\n.line=(k:Int):=⟨n.line.toNat,by omega,by omega⟩
 have e0:n.core.toNat=i:=by omega
 rw[e0,p]
 have F:=h.line k d
 rw[Jk g (.inr hk)] at F
 have O:∀l,l≠k->Dn l N=Dn l (n::N):=fun l e=>(F4 (fun e2=>e (by omega))).symm
 have t:∀x∈N,x∈n::N:=fun x j=>List.mem_cons_of_mem _ j
 have b:∀{w:iH} {out:List aH} {e:Int},(n.kind=8->1<=n.state/\n.state<=4)->fQ C (i:Int) (X i) n=(w,out,e)->gU C w:=fun hv e=>by
  have:=Mz (core:=(i:Int)) hv (h.uD i o);grind
 have γ:cls C X k i=cK C.aG.toNat (X i) k:=rfl
 rcases(by omega:n.kind=8\/n.kind=9\/n.kind=10\/n.kind=11) with k8|k9|J|E
 .have f:=F.granted (d':=if(cls C X k i).st≠0 then(cls C X k i).d else(n.d0,n.d1)) k8 o p rfl;obtain⟨w,a,u,q,Y,Z⟩:=Wl (core:=(i:Int)) k8 g d (h.uD i o) (h.room i o) f.1.1 (by omega);refine⟨w,_,a,?_,fun x j=>by rw[List.mem_singleton.1 j];exact⟨rfl,by show PK 4;decide⟩⟩;refine h.lF (A:=[_]) d ?_ (fun _ _=>rfl) (fun _ _=>rfl) (fun l e=>rP (Y l e)) (fun x j=>?_) O t (rE h (b (fun _=>by omega) a)) (rO h Z) (uH h (by omega))
  .rw[wY,q,g];exact f.2
  .rw[List.mem_singleton.1 j];exact⟨g,.inl (show(1:Int)<=4/\(4:Int)<=5 by omega),show(0:Int)<=(i:Int)/\(i:Int)<C.aD by omega⟩
 .have f:=F.aJh k9 o p;obtain⟨a,u,q⟩:=ff (core:=(i:Int)) k9 g d f.1;refine⟨_,_,a,?_,fun x j=>by cases j⟩;refine h.lF (A:=[]) d ?_ (fun _ _=>rfl) (fun _ _=>rfl) (fun l e=>rP (q l e)) (fun x j=>by cases j) O t (rE h (b (by omega) a)) (rO h ⟨(fun e=>by cases e),(h.room i o).gl,(h.room i o).bd⟩) (uH h (by omega));rw[wY,u];exact f.2
 .have f:=F.aF2 (gd':=(0,0)) (gs':=0) J o p rfl;obtain⟨a,u,q⟩:=Ui (core:=(i:Int)) J g d f.1;refine⟨_,_,a,?_,fun x j=>by cases j⟩;refine h.lF (A:=[]) d ?_ (fun _ _=>rfl) (fun _ _=>rfl) (fun l e=>rP (q l e)) (fun x j=>by cases j) O t (rE h (b (by omega) a)) (rO h ⟨(h.room i o).al,(fun e=>by cases e),(h.room i o).bd⟩) (uH h (by omega));rw[wY,u];exact f.2
 .obtain⟨_,_,_,h0,β,hw⟩:=F.found E o p;obtain⟨w,y,a,ea,eb,ec,ed,ee,W,v,B,α,R,I⟩:=Ws (core:=(i:Int)) E g d (h.uD i o) (h.room i o) β hw;refine⟨w,_,a,?_,fun x j=>by rw[List.mem_singleton.1 j];exact⟨by rw[v.2.2.1,g],by unfold PK;rw[v.1];omega⟩⟩;refine h.lF (A:=[y]) d ?_ (fun _ _=>rfl) (fun _ _=>rfl) (fun l e=>rP (I l e)) (fun x j=>?_) O t (rE h (b (by omega) a)) (rO h W) (uH h (by omega))
  .rw[wY];have P:HH k (H k).1 (cls C X k) (n::Dn k N) i=if(cls C X k i).st≠0 then(cls C X k i).st else(cls C X k i).gs:=by
    unfold HH at h0 ⊢;by_cases e:(cls C X k i).st=0;rw[(Nk h0 e).2.2,aKi (by simpa using e)];unfold tV;grind
   have D:=v.2.2.2.2.2 _ _ P rfl
   exact F.aC9 E o p B α R ⟨v.1,v.2.1,v.2.2.1,D.1,D.2.1,D.2.2⟩
  .rw[List.mem_singleton.1 j];exact⟨v.2.2.1,by unfold PK;rw[v.1];omega,by rw[v.2.1];omega⟩
theorem nG.there {i k:Nat} (h:nG C H X V N) (hc:(cls C X k i).pL=true\/(cls C X k i).gi=true\/(cls C X k i).st≠0):(i:Int)<C.aD:=by
 apply Classical.byContradiction;intro e;have:cls C X k i=⟨0,(0,0),false,false,false,0,(0,0)⟩:=by show cK _ (X i) k=_;rw[h.new i (by omega),qj]
 grind
theorem nG.waiter {k:Nat} (h:nG C H X V N) (o:k<C.lines) {x:aH} (f:x∈(H k).1.waits) (p:x.kind≠0):0<=x.core/\x.core<C.aD:=by
 have d:=h.line k o;have b:=d.row.waits x f;obtain⟨i,g,a,_⟩:=fK b.2.1;refine⟨b.2.1.1,?_⟩;rw[a];rcases(by omega:x.kind=1\/x.kind=2\/x.kind=3) with e|e|e;have:=fN f e a b.1;have j:=d.t1 i g;exact h.there (k:=k) (.inl (by grind));have:=fN f e a b.1;have j:=d.t1 i g;exact h.there (k:=k) (.inl (by grind));have:=fN f e a b.1;have j:=d.t2 i g;exact h.there (k:=k) (.inr (.inl (by grind)))
theorem nG.aEd {k i:Nat} (h:nG C H X V N) (_d:k<C.lines) (_b:i<4) (a:HH k (H k).1 (cls C X k) (Dn k N) i≠0):(i:Int)<C.aD:=by
 unfold HH at a;by_cases e:(cls C X k i).st=0;exact h.there (k:=k) (.inr (.inl (Nk a e).1));exact h.there (k:=k) (.inr (.inr e))
end
section
variable {C:bN} {H:lT} {X:Nat->iH} {V:Nat->Ln} {N N':List aH} {n:aH} {s:iH}
theorem Oi {r:Row} {line:Int} {d:Ln}:∀y∈(r.eC line d).2,y.kind=8/\y.core=r.served.core/\y.line=line:=by
 intro y a;unfold Row.eC at a;split at a;rw[List.mem_singleton.1 a];exact⟨rfl,rfl,rfl⟩;split at a<;>(rw[List.mem_singleton.1 a];exact⟨rfl,rfl,rfl⟩)
theorem yA {r:Row}:(r.heard n).served=r.served:=by
 unfold Row.heard;split;rfl;split<;>split<;>rfl
theorem fc {r:Row} {m:Ln} {line:Int}:∀y∈(mT.nI (r,m) line n).2,y.kind=8/\y.core=r.served.core/\y.line=line/\r.served.kind≠0:=by
 intro y a;unfold mT.nI at a;dsimp only at a;unfold Row.rest at a;split at a;split at a;cases a;rename_i b;have:=Oi y a;rw[yA] at this b;grind;cases a
theorem Cu {line st:Int} {S:List Nat}:∀y∈eB line st S,y.kind=11/\y.line=line/\∃a∈S,y.core=(a:Int):=by
 intro y b;unfold eB at b;grind
theorem G2 {r:Row} {x:Int} {a:Nat} (h:a∈r.fY x):a<4/\(r.sh a=true\/r.owner=(a:Int)):=by
 have:=rD.1 h;have b:=this.2;unfold Row.holds at b;grind
theorem ki {r:Row} {line:Int} {m:Ln} {j:Int->Int×Bool} (A:n.kind=0\/n.kind=1\/n.kind=2\/n.kind=3) (B: -1<=r.owner/\r.owner<4):∀y∈(Row.begun r line m n j).2,y.line=line/\(8<=y.kind/\y.kind<=11)/\((y.core=n.core/\n.kind≠0)\/∃a:Nat,a<4/\y.core=(a:Int)/\(r.sh a=true\/r.owner=(a:Int))):=by
 intro y b;unfold Row.begun at b;by_cases t:n.kind=3;rw[aKj t] at b;rw[List.mem_singleton.1 b];exact⟨rfl,⟨show(8:Int)<=10 by omega,show(10:Int)<=11 by omega⟩,.inl ⟨rfl,by omega⟩⟩;rw[aKi t] at b;by_cases f:n.kind=1\/n.kind=2;rw[aKj f] at b;have v:n.kind≠0:=by omega
 by_cases q:(j n.world).2=true;rw[aKj q] at b;unfold Row.get at b;dsimp only at b;have gr:∀{o:Row} {d:Ln},o.served=n->y∈(o.eC line d).2->y.line=line/\(8<=y.kind/\y.kind<=11)/\((y.core=n.core/\n.kind≠0)\/∃a:Nat,a<4/\y.core=(a:Int)/\(r.sh a=true\/r.owner=(a:Int))):=fun {o d} e b=>by
  have:=Oi y b;grind
 split at b;unfold Row.getM at b;split at b;obtain⟨p,i,a,g,k⟩:=Cu y b;have:=G2 g;exact⟨i,by omega,.inr ⟨a,this.1,k,this.2⟩⟩;exact gr rfl b;unfold Row.S3 at b;have w:((r.serve n (j n.world).1).oF).owner=r.owner\/((r.serve n (j n.world).1).oF).owner= -1:=by
  unfold Row.oF;split;exact .inr rfl;exact .inl rfl
 split at b;rename_i u;obtain⟨p,i,a,g,k⟩:=Cu y b;grind;refine gr ?_ b;unfold Row.oF;split<;>rfl;rw[aKi q] at b;rw[List.mem_singleton.1 b];exact⟨rfl,⟨show(8:Int)<=9 by omega,show(9:Int)<=11 by omega⟩,.inl ⟨rfl,v⟩⟩;rw[aKi f] at b;split at b;cases b;obtain⟨p,i,a,g,k⟩:=Cu y b;have:=G2 g;grind
theorem nG.homes (h:nG C H X V (n::N)) (hC:C.Ok) (O:1<=n.kind/\n.kind<=5):
  ∃a out,fA C H n=(a,out,0)/\nG C a X V (out++N)/\(∀x∈out,x.line=n.line/\PK x.kind)/\(∀l:Nat,(l:Int)≠n.line->a l=H l):=by
 have w:=h.nb n (by simp) (.inl O)
 obtain⟨E,F⟩:=nG.i4 hC w.1
 obtain⟨i,W,D⟩:∃i:Nat,i<4/\n.core=(i:Int):=⟨n.core.toNat,E,F.symm⟩
 obtain⟨k,g,f⟩:∃k:Nat,k<C.lines/\n.line=(k:Int):=⟨n.line.toNat,by omega,by omega⟩
 have P:n.line.toNat=k:=by omega
 have b:=h.line k g
 rw[Jk f (.inl O)] at b
 have T:∀l,l≠k->Dn l N=Dn l (n::N):=fun l e=>(F4 (fun t=>e (by omega))).symm
 have v:∀x∈N,x∈n::N:=fun x j=>List.mem_cons_of_mem _ j
 have Y:fA C H n=(aX H k (mT.take (H k) k n).1,(mT.take (H k) k n).2):=by
  unfold fA;rw[aKi (by unfold fG;omega),aKj ⟨w.1,by unfold bN.has;exact w.2⟩,P,f]
 have done:∀(q:mT) (out:List aH),mT.take (H k) k n=(q,out,0)->Inv k q.1 q.2 (V k) (cls C X k) (out++Dn k N)->(∀y∈out,y.line=(k:Int)/\PK y.kind/\0<=y.core/\y.core<C.aD)->
   ∃a out,fA C H n=(a,out,0)/\nG C a X V (out++N)/\(∀x∈out,x.line=n.line/\PK x.kind)/\(∀l:Nat,(l:Int)≠n.line->a l=H l):=fun q out e d hA=>by
  rw[Y,e]
  refine⟨_,_,rfl,h.lF (A:=out) g ?_ (fun l t=>cX t) (fun _ _=>rfl) (fun _ _=>rfl) hA T v h.uD h.room h.new,fun x j=>⟨by rw[(hA x j).1,f],(hA x j).2.1⟩,fun l t=>cX (by omega)⟩
  rw[fB];exact d
 have j:H k=((H k).1,(H k).2):=rfl
 by_cases I:n.kind=4
 .obtain⟨p,u,R⟩:=b.wg I;refine done ((H k).1.free,(H k).2) [] ?_ R (fun y o=>by cases o);unfold mT.take;rw[aKj I,aKi (by rw[p];simp;exact u)]
 .by_cases J:n.kind=5
  .obtain⟨p,u⟩:=b.nI J;refine done (mT.nI (H k) k n).1 (mT.nI (H k) k n).2 ?_ u (fun y o=>?_)
   .unfold mT.take;rw[aKi I,aKj J,aKi (by rw[p];simp)]
   .obtain⟨o1,o2,Z,o4⟩:=fc (r:=(H k).1) (m:=(H k).2) y o;obtain⟨_,U,B,_,_⟩:=b.Yp J W D;refine⟨Z,by unfold PK;omega,?_⟩;have hc:=b.row.core;have tV:zR (H k).1 (H k).1.served.core.toNat=1:=by unfold zR;rw[aKj ⟨B,U,o4,by omega⟩]
    have p:=b.t1 (H k).1.served.core.toNat (by omega)
    have:=h.there (i:=(H k).1.served.core.toNat) (k:=k) (.inl (by grind))
    omega
  .have d:=b.aDc (by omega);refine done ((H k).1.wait n,(H k).2) [] ?_ d (fun y o=>by cases o);unfold mT.take;grind
theorem nG.Xc (h:nG C H X V N) {l:Int} {j:Int->Int×Bool}:
  ∃u out e,iB C H l j=(u,out,e)/\nG C u X V (out++N)/\(∀x∈out,x.line=l/\PK x.kind)/\(∀k:Nat,(k:Int)≠l->u k=H k):=by
 unfold iB
 by_cases B:C.has l
 .rw[aKj B];obtain⟨k,d,D⟩:∃k:Nat,k<C.lines/\l=(k:Int):=⟨l.toNat,by unfold bN.has at B;omega,by unfold bN.has at B;omega⟩;subst D;rw[Int.toNat_natCast];have f:=h.line k d;have same:aX H k (H k)=H:=by funext i;unfold aX;grind
  unfold mT.begin
  by_cases p:(H k).1.busy=true
  .grind
  .rw[aKi p];have p:(H k).1.busy=false:=by simpa using p
   cases hw:(H k).1.waits with
   |nil=>refine⟨_,_,_,rfl,?_,(fun x g=>by cases g),fun i e=>cX (by omega)⟩;grind
   |cons n w=>
    have E:=f.row.waits n (by rw[hw];simp)
    have v:=f.begun (j:=j) p hw
    have b:=ki (r:=(H k).1.next w) (line:=k) (m:=(H k).2) (j:=j) E.2.2 f.row.owner
    obtain⟨O,U,_⟩:=f.idle p
    refine⟨_,_,_,rfl,?_,fun x g=>⟨(b x g).1,.inr (b x g).2.1⟩,fun i e=>cX (by omega)⟩
    refine h.lF (A:=(Row.begun ((H k).1.next w) k (H k).2 n j).2) d ?_ (fun l I=>cX I) (fun _ _=>rfl) (fun _ _=>rfl) (fun y P=>?_) (fun _ _=>rfl) (fun _ g=>g) h.uD h.room h.new
    .rw[fB];exact v
    .obtain⟨R,T,t⟩:=b y P;refine⟨R,.inr T,?_⟩;rcases t with⟨t,F⟩|⟨a,o,t,F⟩
     .rw[t];exact h.waiter d (by rw[hw];simp) F
     .have q:=f.c1 a o (by have:=f.t3 a o;rw[fZ O o] at this;simp at this;omega) (by have:=f.t4 a o;unfold vY at this;grind);have J:HH k (H k).1 (cls C X k) (Dn k N) a≠0:=by
       rcases F with e|e;have:=q.1.2 e;omega;have:=q.2.2 e;omega
      have:=h.aEd d o J
      omega
 grind
theorem nG.Au (h:nG C H X V N) {l:Int}:nG C (jF C H l).1 X V N:=by
 unfold jF;by_cases b:C.has l;rw[aKj b];obtain⟨k,a,d⟩:∃k:Nat,k<C.lines/\l=(k:Int):=⟨l.toNat,by unfold bN.has at b;omega,by unfold bN.has at b;omega⟩;subst d;rw[Int.toNat_natCast];refine h.lF (A:=[]) a ?_ (fun l e=>cX e) (fun _ _=>rfl) (fun _ _=>rfl) (fun y g=>by cases g) (fun _ _=>rfl) (fun _ f=>f) h.uD h.room h.new;show Inv k (aX H k _ k).1 (aX H k _ k).2 _ _ _;rw[fB];exact(h.line k a).yf;grind
theorem nG.reads (h:nG C H X V N) {i:Nat} (b:i<4) (d:(i:Int)<C.aD) {l a f:Int}:nG C H (aX X i (oK C (X i) l a f)) V N:=
 ⟨fun k e=>by rw[rP (zx (h.uD i b))];exact h.line k e,rE h (F7 (h.uD i b)),rO h (ir (h.uD i b) (h.room i b)),uH h d,h.nb⟩
theorem nG.writes (h:nG C H X V N) {i:Nat} (b:i<4) (f:(i:Int)<C.aD) {k:Nat} {a o v:Int} (j:oE C (X i).S k a o true=0):
  nG C H (aX X i (kC C (X i) k a o v)) (aX V k (rz (V k) a v)) N:=by
 have d:k<C.lines:=by have:=(tE j).1;omega
 obtain⟨q,t⟩:=mu (v:=v) (h.uD i b) j
 have g:=h.line k d
 have u:(cls C X k i).d=V k:=by
  have w:(cls C X k i).st≠0:=by grind
  have:=g.c3 i b (by unfold HH tV;grind);unfold sW at this;grind
 refine h.lF (A:=[]) d ?_ (fun _ _=>rfl) (fun l p=>cX p) (fun l e=>rP (Wh (by omega))) (fun y D=>by cases D) (fun _ _=>rfl) (fun _ B=>B) (rE h (Jg (h.uD i b))) (rO h (V4 (h.uD i b) (h.room i b))) (uH h f)
 rw[fB,wY,t]
 have:(cK C.aG.toNat (X i) k).d=V k:=u
 rw[this]
 exact g.wrote b q
theorem nG.value (h:nG C H X V N) {i:Nat} (d:i<4) {k:Nat} (f:k<C.lines) (a:(bB C.aG.toNat (X i).S k).2=0):(bB C.aG.toNat (X i).S k).1.d=V k:=by
 have b:(cls C X k i).st≠0:=by
  show(cK C.aG.toNat (X i) k).st≠0;rw[E0,aKj a];have:=qX (h.uD i d).aG a;omega
 have:=(h.line k f).c3 i d (by unfold HH tV;grind);unfold sW at this;rw[aKj b] at this;have e:(cls C X k i).d=(bB C.aG.toNat (X i).S k).1.d:=by show(cK C.aG.toNat (X i) k).d=_;rw[xn,aKj a]
 rw[<-e];exact this
theorem nG.asks (h:nG C H X V N) {i:Nat} (p:i<4) (d:(i:Int)<C.aD) {k:Nat} {w:Int} {wr:Bool} (f:k<C.lines) (a:(X i).D7=false) (c3:¬((X i).sU=true/\(X i).gl=k))
  (c4:¬((bB C.aG.toNat (X i).S k).2=0/\mM (bB C.aG.toNat (X i).S k).1.st wr=true)) (b:(bB C.aG.toNat (X i).S k).2=0\/((X i).S (setOf C.aG.toNat k)).length<C.ways.toNat):
  nG C H (aX X i {X i with al:=(k:Int),aw:=wr,D7:=true}) V (⟨if wr then 2 else 1,i,k,w,0,0,0,false,0⟩::N):=by
 have g:=h.uD i p
 have u:=h.room i p
 have D:=h.line k f
 have E:(cls C X k i).pL=false:=by show(cK _ (X i) k).pL=_;unfold cK;rw[a];rfl
 have o:(cls C X k i).gi=false:=by
  show(cK _ (X i) k).gi=_;unfold cK;simp only[Bool.and_eq_false_iff,decide_eq_false_iff_not];by_cases e:(X i).sU=true;exact .inr (fun j=>c3 ⟨e,j⟩);exact .inl (by simpa using e)
 have t:if wr=true then(cls C X k i).st≠2/\(cls C X k i).st≠4 else(cls C X k i).st=0:=by
  have v:(cls C X k i).st=if(bB C.aG.toNat (X i).S k).2=0 then(bB C.aG.toNat (X i).S k).1.st else 0:=rfl
  rw[v];by_cases q:(bB C.aG.toNat (X i).S k).2=0;rw[aKj q];have B:=qX g.aG q;have:¬mM (bB C.aG.toNat (X i).S k).1.st wr=true:=fun e=>c4 ⟨q,e⟩;unfold mM vA O3 at this;grind;grind
 refine h.lF (A:=[_]) f ?_ (fun _ _=>rfl) (fun _ _=>rfl) (fun l e=>?_) (fun y I=>?_) (fun _ _=>rfl) (fun _ F=>F) (rE h ⟨g.aG,g.back,g.pl⟩) (rO h ⟨fun _=>⟨⟨by grind,by grind⟩,b⟩,u.gl,u.bd⟩) (uH h d)
 .rw[wY];have j:cK C.aG.toNat {(X i) with al:=(k:Int),aw:=wr,D7:=true} k={cK C.aG.toNat (X i) k with pL:=true,aw:=wr}:=by unfold cK;simp
  rw[j]
  exact D.asks p E o t ⟨rfl,rfl,rfl⟩
 .apply rP;unfold cK;have:decide ((k:Int)=(l:Int))=false:=decide_eq_false (by omega);simp[this,a]
 .rw[List.mem_singleton.1 I];refine⟨rfl,?_,by grind,d⟩;unfold PK;cases wr<;>simp
theorem nG.zD (h:nG C H X V N) {i:Nat} (B:i<4) (g:(i:Int)<C.aD) {v:Int} {x:pW} (b:(X i).D7=false) (f:(X i).sU=false) (q:bB C.aG.toNat (X i).S v=(x,0)):
  nG C H (aX X i {X i with S:=gB C.aG.toNat (X i).S v,gl:=v,gc:=x,sU:=true}) V (⟨3,i,v,x.w,0,x.d.1,x.d.2,jH x.st,0⟩::N):=by
 have p:=h.uD i B
 have F:=h.room i B
 have a:(bB C.aG.toNat (X i).S v).2=0:=by rw[q]
 have I:=(oM a).2
 have W:=F.bd v a
 have u:=qX p.aG a
 rw[q] at u
 obtain⟨k,o,D⟩:∃k:Nat,k<C.lines/\v=(k:Int):=⟨v.toNat,by omega,by omega⟩
 subst D
 have O:=h.line k o
 have d:(cls C X k i).st=x.st:=by show(cK _ (X i) k).st=_;rw[E0,aKj a,q]
 have E:(cls C X k i).d=x.d:=by show(cK _ (X i) k).d=_;rw[xn,aKj a,q]
 have P:(cls C X k i).pL=false:=by show(cK _ (X i) k).pL=_;unfold cK;rw[b];rfl
 have w:gU C {X i with S:=gB C.aG.toNat (X i).S (k:Int),gl:=(k:Int),gc:=x,sU:=true}:=by
  have g1:=qN (n:=C.aG.toNat) (no:=(k:Int)) p.aG;have g2:=Bn (no:=(k:Int)) p.pl;refine Good.mk g1 (fun _=>?_) g2;grind
 refine h.lF (A:=[_]) o ?_ (fun _ _=>rfl) (fun _ _=>rfl) (fun l e=>?_) (fun y U=>?_) (fun _ _=>rfl) (fun _ T=>T) (rE h w) (rO h ⟨(fun e=>by grind),fun _=>⟨by grind,by grind⟩,fun j R=>?_⟩) (uH h g)
 .rw[wY];have t:cK C.aG.toNat {(X i) with S:=gB C.aG.toNat (X i).S (k:Int),gl:=(k:Int),gc:=x,sU:=true} k=⟨0,(0,0),false,false,true,(cls C X k i).st,(cls C X k i).d⟩:=by
   rw[d,E];have:=Fv (n:=C.aG.toNat) p.aG I;unfold cK;simp[this,b]
  rw[t]
  exact O.zD B P (by grind) ⟨rfl,rfl,rfl,by rw[E],by rw[d]⟩ (.inr trivial)
 .apply rP;unfold cK;have J:¬((k:Int)=(l:Int)):=by omega
  simp only[kI (show(l:Int)≠(k:Int) by omega)]
  simp[J,f]
 .rw[List.mem_singleton.1 U];exact⟨rfl,by show PK 3;decide,by grind,g⟩
 .by_cases t:j=(k:Int)
  .omega
  .exact F.bd j (by rw[<-R];exact(congrArg Prod.snd (kI t)).symm)
theorem nG.aGv (h:nG C H X V N) (hC:C.Ok) {i:Nat} (p:i<4) (b:(i:Int)<C.aD) {l w:Int} {wr:Bool}:
  ∃f out e,want C i (X i) l w wr=(f,out,e)/\nG C H (aX X i f) V (out++N)/\(e≠0->f=X i/\out=[])/\∀x∈out,PK x.kind:=by
 have I:=h.uD i p
 have Y:=h.room i p
 have Z:=(nH hC).2.2.1
 have same:∀e:Int,e≠0->∃f out F,((X i,[],e):iH×List aH×Int)=(f,out,F)/\nG C H (aX X i f) V (out++N)/\(F≠0->f=X i/\out=[])/\∀x∈out,PK x.kind:=fun e U=>by
  refine⟨_,_,_,rfl,?_,fun _=>⟨rfl,rfl⟩,fun _ d=>by cases d⟩;have:aX X i (X i)=X:=by funext j;unfold aX;grind
  rw[this];exact h
 unfold want
 by_cases A:sA C l=false
 .simp_all
 rw[aKi A]
 by_cases c2:(X i).D7=true
 .simp_all
 rw[aKi c2]
 by_cases c3:(X i).sU=true/\(X i).gl=l
 .simp_all
 rw[aKi c3]
 by_cases c4:(bB C.aG.toNat (X i).S l).2=0/\mM (bB C.aG.toNat (X i).S l).1.st wr=true
 .simp_all
 rw[aKi c4]
 have W:0<=l/\l<C.lines:=by unfold sA at A;simpa using A
 have a:(X i).D7=false:=by simpa using c2
 obtain⟨k,q,D⟩:∃k:Nat,k<C.lines/\l=(k:Int):=⟨l.toNat,by omega,by omega⟩
 subst D
 unfold zI
 cases hv:xH C.aG.toNat C.ways.toNat (X i).S k with
 |none=>
  refine⟨_,_,_,rfl,?_,fun e=>absurd rfl e,fun x d=>?_⟩
  rotate_left
  .rw[List.mem_singleton.1 d];unfold PK;cases wr<;>simp
  refine h.asks p b q a c3 c4 ?_
  unfold xH at hv
  cases hge:Go.Ct.get (k:Int) ((X i).S (setOf C.aG.toNat k)) with
  |some x=>left;unfold bB;grind
  |none=>
   grind
 |some v=>
  unfold xH at hv
  cases hge:Go.Ct.get (k:Int) ((X i).S (setOf C.aG.toNat k)) with
  |some x=>grind
  |none=>
   rw[hge] at hv
   dsimp only at hv
   split at hv
   .cases hv
   have P:v∈(X i).S (setOf C.aG.toNat k):=List.mem_of_getElem? hv
   have u:=I.pl _ v P
   have y:bB C.aG.toNat (X i).S v.1=(v.2,0):=by
    unfold bB;rw[aab,u.2];cases hL:(X i).S (setOf C.aG.toNat k) with
    |nil=>grind
    |cons t L=>
     rw[hL] at hv;have:t=v:=by simpa using hv
     subst this;unfold Go.Ct.get;grind
   dsimp only
   by_cases c5:(X i).sU=true
   .simp_all
   rw[aKi c5,y,aKi (by simp)]
   refine⟨_,_,_,rfl,?_,fun e=>absurd rfl e,fun x d=>?_⟩
   rotate_left
   .rcases List.mem_cons.1 d with rfl|d
    .show PK 3;decide
    .rw[List.mem_singleton.1 d];unfold PK;cases wr<;>simp
   have o:(X i).sU=false:=by simpa using c5
   have E:v.1≠(k:Int):=fun e=>by
    have:Go.Ct.get (k:Int) ((X i).S (setOf C.aG.toNat k))=some v.2:=by
     have:=(oM (by rw[y])).1;grind
    grind
   have O:=h.zD p b a o y
   have T:(bB C.aG.toNat (gB C.aG.toNat (X i).S v.1) k)=bB C.aG.toNat (X i).S k:=kI (fun e=>E e.symm)
   have R:(bB C.aG.toNat (X i).S k).2≠0:=by unfold bB;grind
   have g:=Zz (n:=C.aG.toNat) (S:=(X i).S) (no:=v.1) (by rw[y])
   rw[u.2] at g
   have B:=O.asks (i:=i) (w:=w) (wr:=wr) p b q (by rw[fB];exact a) (by rw[fB];grind) (by rw[fB];grind)
    (by rw[fB];right;exact Nat.lt_of_lt_of_le g (I.aG _).len)
   rw[fB] at B
   have J:∀s1 s2:iH,aX (aX X i s1) i s2=aX X i s2:=fun s1 s2=>by
    funext j;by_cases e:j=i;subst e;rw[fB,fB];rw[cX e,cX e,cX e]
   rw[J] at B
   exact B.perm (List.Perm.swap _ _ _)
end
end Go.Pc
namespace Go.Mc
open Go Go.Ab Go.Hm Go.At Go.Is Go.Ct Go.Nt
section
variable {C:bN}
theorem Nx {α:Type} {f a:Nat->List α} {l:List α} {k:Nat}:∀{n:Nat},(∀i,i≠k->a i=f i)->(a k).Perm (l++f k)->k<n->((List.range n).flatMap a).Perm (l++(List.range n).flatMap f):=by
 intro n;induction n with
 |zero=>intro _ _ h;omega
 |succ n j=>
  intro b g o;rw[List.range_succ,List.flatMap_append,List.flatMap_append,List.flatMap_singleton,List.flatMap_singleton];by_cases e:n=k;subst e;have:(List.range n).flatMap a=(List.range n).flatMap f:=by
   have:∀m,m<=n->(List.range m).flatMap a=(List.range m).flatMap f:=by
    intro m;induction m with
    |zero=>intro _;rfl
    |succ m d=>
     intro p;rw[List.range_succ,List.flatMap_append,List.flatMap_append,d (by omega),List.flatMap_singleton,List.flatMap_singleton,b m (by omega)]
   grind
  rw[this];refine(List.Perm.append_left _ g).trans ?_;rw[<-List.append_assoc,<-List.append_assoc];exact List.Perm.append_right _ List.perm_append_comm;rw[b n e];have:=j b g (by omega);rw[<-List.append_assoc];exact List.Perm.append_right _ this
def qT (C:bN) (F:fM):List aH:=(List.range C.aD.toNat).flatMap fun c=>(List.range 4).flatMap fun w=>F c w
theorem set_perm {F:fM} {c w:Nat} {l l':List aH} (hc:(c:Int)<C.aD) (b:w<4) (h:l'.Perm (l++F c w)):(qT C (F.set c w l')).Perm (l++qT C F):=by
 unfold qT;refine Nx (k:=c) (fun i a=>?_) ?_ (by omega);unfold fM.set;simp[a];refine Nx (k:=w) (fun i a=>?_) ?_ b;unfold fM.set;simp[a];unfold fM.set;grind
theorem zY {n:aH} (h:Ms n.kind):fR n<4:=by
 unfold Ms at h;unfold fR;rcases k14 (k:=n.kind.toNat) (by omega) with e|e|e|e|e|e|e|e|e|e|e|e|e|e<;>rw[e]<;>decide
theorem a8:∀{l:List aH} {F a:fM},(∀n∈l,Nt.nC C n=0)->fM.zD C.depth F l=some a->(qT C a).Perm (l++qT C F):=by
 intro l;induction l with
 |nil=>intro F a _ h;cases h;grind
 |cons n l f=>
  intro F a b h;unfold fM.zD at h;split at h;have e:=vR (b n List.mem_cons_self);have g:=f (fun k d=>b k (List.mem_cons_of_mem _ d)) h;have i:(qT C (F.put n)).Perm ([n]++qT C F):=set_perm (by omega) (zY e.1) List.perm_append_comm;grind;cases h
theorem wO {F:fM} {l:List aH} (h:(F.send C l).2=0):(qT C (F.send C l).1).Perm (l++qT C F)/\∀n∈l,Nt.nC C n=0:=by
 unfold fM.send at h ⊢;split at h;grind;rename_i a;rw[aKi a];have a:cA C l=0:=by simpa using a
 split at h;rename_i d b;exact⟨a8 (D4 a) (by rw[b]),D4 a⟩;cases h
theorem Ta {α:Type}:∀{l:List α} {i:Nat} (h:i<l.length),l.Perm (l[i]::l.eraseIdx i)
 |[],_,h=>by cases h
 |a::l,0,_=>List.Perm.refl _
 |a::l,i+1,h=>by
  have:=Ta (l:=l) (i:=i) (by simpa using h);exact(List.Perm.cons a this).trans (List.Perm.swap _ _ _)
theorem bp {F:fM} {a b c:Int} (h:(F.take C a b c).2.2=0):(qT C F).Perm ((F.take C a b c).2.1::qT C (F.take C a b c).1):=by
 unfold fM.take at h ⊢;by_cases g:(0<=a/\a<C.aD)/\(0<=b/\b<4);rw[aKi (fun h=>h g)] at h ⊢;dsimp only at h ⊢;by_cases d:F a.toNat b.toNat=[];rw[aKj d] at h;cases h;rw[aKi d];have o:0<(F a.toNat b.toNat).length:=List.length_pos_iff.2 d;have f:(c % ((F a.toNat b.toNat).length:Int)).toNat<(F a.toNat b.toNat).length:=by
  have j:=Int.emod_nonneg c (show((F a.toNat b.toNat).length:Int)≠0 by omega);have k:=Int.emod_lt_of_pos c (show(0:Int)<((F a.toNat b.toNat).length:Int) by omega);omega
 dsimp only;generalize(c % ((F a.toNat b.toNat).length:Int)).toNat=i at f ⊢;rw[List.getD_eq_getElem?_getD,List.getElem?_eq_getElem f];dsimp only[Option.getD];have e:F=(F.set a.toNat b.toNat ((F a.toNat b.toNat).eraseIdx i)).set a.toNat b.toNat (F a.toNat b.toNat):=by
  funext x y;unfold fM.set;by_cases e:x=a.toNat/\y=b.toNat;rw[aKj e,e.1,e.2];rw[aKi e,aKi e]
 have:=set_perm (C:=C) (F:=F.set a.toNat b.toNat ((F a.toNat b.toNat).eraseIdx i)) (c:=a.toNat) (w:=b.toNat) (l:=[(F a.toNat b.toNat)[i]]) (l':=F a.toNat b.toNat) (by omega) (by omega) (by
  have:(F.set a.toNat b.toNat ((F a.toNat b.toNat).eraseIdx i)) a.toNat b.toNat=(F a.toNat b.toNat).eraseIdx i:=by unfold fM.set;simp
  rw[this];exact Ta f)
 grind;grind
end
section
def Zi (n g a w:Int):Prop:=(iT n g a w).2.2.2=0/\((iT n g a w).2.2.1=false->(iT n g a w).1=iW n g/\a=g/4)
theorem O0 {es:List gZ}:(iD es).length=(es.length+3)/4+es.length:=by unfold iD;simp
theorem ly {es:List gZ} {j:Nat} (h:j<(es.length+3)/4):iS es (j:Int)=(Mh es j,0):=by
 unfold iS;rw[aKj (by rw[O0];omega),Int.toNat_natCast];unfold iD;grind
theorem gq {es:List gZ} {g:Nat} (h:g<es.length):iS es (iW es.length g)=(Qj (es.getD g iO),0):=by
 have e:iW es.length g=(((es.length+3)/4+g:Nat):Int):=by unfold iW;omega
 unfold iS;rw[e,aKj (by rw[O0];omega),Int.toNat_natCast];unfold iD;grind
theorem ry {es:List gZ} {j g:Nat} (h:Gs es j=true) (a:g<es.length) (b:g/4=j):es.getD g iO=⟨(es.getD (4*j) iO).owner,false⟩:=by
 unfold Gs at h;rw[List.all_eq_true] at h;have d:es.getD g iO∈(es.drop (4*j)).take 4:=by
  rw[List.getD_eq_getElem?_getD,List.getElem?_eq_getElem a];refine List.mem_of_getElem? (i:=g - 4*j) ?_;grind
 grind
theorem w8 {es:List gZ} (b:∀x∈es,0<=x.owner/\x.owner<=4) {g:Nat} (a:g<es.length):0<=(es.getD g iO).owner/\(es.getD g iO).owner<=4:=by
 grind
theorem cy {es:List gZ} {g:Nat} {a:Int} (A:es.length<=16) (t:∀x∈es,0<=x.owner/\x.owner<=4) (p:g<es.length) (u:a=(g:Int)/4\/a=iW es.length g):
  (iS es a).2=0/\Zi es.length g a (iS es a).1/\((iT es.length g a (iS es a).1).2.2.1=true->(iT es.length g a (iS es a).1).2.1=es.getD g iO):=by
 have b:¬¬((1<=(es.length:Int)/\(es.length:Int)<=16)/\(0<=(g:Int)/\(g:Int)<es.length)):=by omega
 have v:(g:Int)/4≠iW es.length g:=by unfold iW;omega
 rcases u with rfl|rfl
 .have e:(g:Int)/4=((g/4:Nat):Int):=by omega
  have f:=ly (es:=es) (j:=g/4) (by omega)
  rw[<-e] at f
  rw[f]
  refine⟨rfl,?_⟩
  unfold Zi iT
  rw[aKi b,aKj rfl]
  dsimp only
  have y:(g:Int)/4*4=((4*(g/4):Nat):Int):=by omega
  unfold Mh
  by_cases d:Gs es (g/4)=true
  .rw[aKj d];have q:=w8 t (show 4*(g/4)<es.length by omega);have w:=ry d p rfl;rw[aab,aKj ⟨by omega,by unfold Az;grind⟩];grind
  grind
 .have f:=gq p;rw[f];refine⟨rfl,?_⟩;unfold Zi iT;rw[aKi b,aKi (fun h=>v h.symm),aKj rfl];dsimp only;have q:=w8 t p;generalize B:es.getD g iO=x at q ⊢;obtain⟨o,k⟩:=x;cases k with
  |true=>
   have i:Qj ⟨o,true⟩=o+8:=rfl
   rw[i,aKi (by unfold Az;grind),aKj ⟨by grind,by unfold Az;grind⟩]
   grind
  |false=>
   have i:Qj ⟨o,false⟩=o:=rfl
   rw[i,aKj (by unfold Az;grind)]
   grind
end
section
def cw (i:Nat) (N:List aH):Nat:=N.countP fun n=>decide (n.core=(i:Int)/\(n.kind=6\/n.kind=12))
def cd (i g:Nat) (N:List aH):Nat:=N.countP fun n=>decide (n.core=(i:Int)/\n.no=(g:Int)/\(n.kind=13\/n.kind=7))
def iX (N:List aH) (i g:Nat):Prop:=∃n∈N,n.kind=13/\n.core=(i:Int)/\n.no=(g:Int)
def B1 (m:Mon) (g i:Nat):Nat:=match m.runs g with
 |some r=>(r.waits i).toNat
 |none=>0
structure iL (C:bN) (K:Nat->jP) (m:Mon) (N:List aH):Prop where
 cw:∀i:Nat,(i:Int)<C.aD->cw i N=(K i).lR.toNat
 no:∀n∈N,n.kind=6\/n.kind=12->n.no=(K n.core.toNat).at'
 pl:∀i:Nat,(i:Int)<C.aD->(K i).lR=true->(K i).at'=(K i).bI/4\/(K i).at'=iW C.aQ (K i).bI
 word:∀n∈N,n.kind=12->Zi C.aQ (K n.core.toNat).bI (K n.core.toNat).at' n.d0/\((K n.core.toNat).nO=false->(iT C.aQ (K n.core.toNat).bI (K n.core.toNat).at' n.d0).2.2.1=true->(iT C.aQ (K n.core.toNat).bI (K n.core.toNat).at' n.d0).2.1.locked=false->
  (iT C.aQ (K n.core.toNat).bI (K n.core.toNat).at' n.d0).2.1.owner=(m.kJ (K n.core.toNat).bI).owner/\((m.kJ (K n.core.toNat).bI).locked=true->iX N n.core.toNat (K n.core.toNat).bI.toNat))
 known:∀i:Nat,(i:Int)<C.aD->∀x∈(K i).known,(0<=x.1/\x.1<C.aQ)/\x.2=(m.kJ x.1).owner/\((m.kJ x.1).locked=true->iX N i x.1.toNat)
 nd:∀i:Nat,(i:Int)<C.aD->((K i).known.map (·.1)).Nodup/\((K i).lR=true->(K i).bI∉(K i).known.map (·.1))
 gr:∀i:Nat,(i:Int)<C.aD->0<=(K i).bI/\(K i).bI<C.aQ
 lock:∀g:Nat,(g:Int)<C.aQ->((m.kJ g).locked=true↔(m.runs g).isSome=true)
 cd:∀g i:Nat,(i:Int)<C.aD->cd i g N=B1 m g i
 nb:∀n∈N,KK n.kind->(0<=n.core/\n.core<C.aD)/\(n.kind=13\/n.kind=7->0<=n.no)
 ph:∀g r,m.runs g=some r->(r.phase=2↔r.none=true)/\∀i:Nat,C.aD<=(i:Int)->r.waits i=false
variable {C:bN} {K:Nat->jP} {m:Mon} {N N':List aH} {n:aH}
theorem pO {i:Nat}:cw i (n::N)=cw i N+if n.core=(i:Int)/\(n.kind=6\/n.kind=12) then 1 else 0:=by
 unfold cw;grind
theorem nT {i g:Nat}:cd i g (n::N)=cd i g N+if n.core=(i:Int)/\n.no=(g:Int)/\(n.kind=13\/n.kind=7) then 1 else 0:=by
 unfold cd;grind
theorem aDe {i:Nat}:cw i (N++N')=cw i N+cw i N':=List.countP_append
theorem xa {i g:Nat}:cd i g (N++N')=cd i g N+cd i g N':=List.countP_append
theorem F8 {i g:Nat} (h:iX N i g) (e:∀x∈N,x.kind=13->x∈N'):iX N' i g:=by
 obtain⟨x,b,a,d⟩:=h;exact⟨x,e x b a,a,d⟩
theorem aAq {i g:Nat} (h:iX N i g):0<cd i g N:=by
 obtain⟨x,a,b,d,e⟩:=h;exact List.countP_pos_iff.2 ⟨x,a,decide_eq_true ⟨d,e,.inl b⟩⟩
theorem V1 {i:Nat} (h:n∈N) (hc:n.core=(i:Int)) (a:n.kind=6\/n.kind=12):0<cw i N:=List.countP_pos_iff.2 ⟨n,h,decide_eq_true ⟨hc,a⟩⟩
theorem iL.perm (h:iL C K m N) (p:N.Perm N'):iL C K m N':=by
 have em:∀x,x∈N'↔x∈N:=fun x=>p.symm.mem_iff;have b:∀i,Mc.cw i N'=Mc.cw i N:=fun i=>(p.countP_eq _).symm;have d:∀i g,Mc.cd i g N'=Mc.cd i g N:=fun i g=>(p.countP_eq _).symm;have a:∀i g,iX N' i g↔iX N i g:=fun i g=>by unfold iX;simp only[em]
 constructor;simp only[b];exact h.cw;simp only[em];exact h.no;exact h.pl;simp only[em,a];exact h.word;simp only[a];exact h.known;exact h.nd;exact h.gr;exact h.lock;simp only[d];exact h.cd;simp only[em];exact h.nb;exact h.ph
theorem iL.skip (h:iL C K m (n::N)) (f:¬KK n.kind):iL C K m N:=by
 unfold KK at f;have o:∀i,Mc.cw i N=Mc.cw i (n::N):=fun i=>by rw[pO,aab];rfl
 have p:∀i g,Mc.cd i g N=Mc.cd i g (n::N):=fun i g=>by rw[nT,aab];rfl
 have k:∀i g,iX (n::N) i g->iX N i g:=fun i g ⟨x,h1,q,t⟩=>by
  rcases List.mem_cons.1 h1 with rfl|h1;omega;exact⟨x,h1,q,t⟩
 have em:∀x,x∈N->x∈n::N:=fun x=>List.mem_cons_of_mem _;constructor;simp only[o];exact h.cw;exact fun x e=>h.no x (em x e);exact h.pl;exact fun x e f=>⟨(h.word x (em x e) f).1,fun a b c=>⟨((h.word x (em x e) f).2 a b c).1,fun d=>k _ _ (((h.word x (em x e) f).2 a b c).2 d)⟩⟩;exact fun i j x e=>⟨(h.known i j x e).1,(h.known i j x e).2.1,fun d=>k _ _ ((h.known i j x e).2.2 d)⟩;exact h.nd;exact h.gr;exact h.lock;simp only[p];exact h.cd;exact fun x e=>h.nb x (em x e);exact h.ph
theorem iL.add (h:iL C K m N) (f:¬KK n.kind):iL C K m (n::N):=by
 unfold KK at f;have t:∀i,Mc.cw i (n::N)=Mc.cw i N:=fun i=>by rw[pO,aab];rfl
 have u:∀i g,Mc.cd i g (n::N)=Mc.cd i g N:=fun i g=>by rw[nT,aab];rfl
 have q:∀i g,iX N i g->iX (n::N) i g:=fun i g v=>F8 v fun x e _=>List.mem_cons_of_mem _ e;have em:∀x,x∈n::N->KK x.kind->x∈N:=fun x e p=>by
  rcases List.mem_cons.1 e with rfl|e;exact absurd p (by unfold KK;exact f);exact e
 have j:∀{k:Int},k=6\/k=12->KK k:=fun h=>by unfold KK;omega
 constructor;simp only[t];exact h.cw;exact fun x e f=>h.no x (em x e (j f)) f;exact h.pl;exact fun x e f=>⟨(h.word x (em x e (j (.inr f))) f).1,fun a b c=>⟨((h.word x (em x e (j (.inr f))) f).2 a b c).1,fun d=>q _ _ (((h.word x (em x e (j (.inr f))) f).2 a b c).2 d)⟩⟩;exact fun i o x e=>⟨(h.known i o x e).1,(h.known i o x e).2.1,fun d=>q _ _ ((h.known i o x e).2.2 d)⟩;exact h.nd;exact h.gr;exact h.lock;simp only[u];exact h.cd;exact fun x e f=>h.nb x (em x e f) f;exact h.ph
theorem iL.more (h:iL C K m N):∀{l:List aH},(∀x∈l,¬KK x.kind)->iL C K m (l++N)
 |[],_=>h
 |_::_,a=>(iL.more h fun x b=>a x (List.mem_cons_of_mem _ b)).add (a _ List.mem_cons_self)
theorem iL.new {es:List gZ} (d:(es.length:Int)=C.aQ) (a:1<=C.aQ) (b:∀x∈es,x.locked=false):iL C (fun _=>F2) ⟨es,fun _=>none⟩ []:=by
 constructor;case cw=>exact fun _ _=>rfl
 case no=>grind
 case pl=>exact fun _ _ h=>by cases h
 case word=>grind
 case known=>exact fun _ _ _ h=>by cases h
 case nd=>exact fun _ _=>⟨List.nodup_nil,fun h=>by cases h⟩
 case gr=>exact fun _ _=>⟨by decide,by show(0:Int)<C.aQ;omega⟩
 case lock=>
  intro g a;unfold Mon.kJ;grind
 case cd=>exact fun _ _ _=>rfl
 case nb=>grind
 grind
end
section
variable {C:bN} {K:Nat->jP} {m:Mon} {N N':List aH} {n:aH}
theorem E1 {i:Nat} (h:n.core=(i:Int)):n.core.toNat=i:=by omega
theorem iL.walk {i:Nat} {g:Int} (h:iL C K m N) (I:(i:Int)<C.aD) (u:((K i).begin C g).2.2=0):
  iL C (aX K i ((K i).begin C g).1) m (dM 6 i ((K i).begin C g).2.1::N):=by
 unfold jP.begin at u ⊢
 by_cases B:0<=g/\g<C.aQ
 rotate_left
 .rw[aKj B] at u;cases u
 rw[aKi (fun e=>e B)] at u ⊢
 by_cases k:(mI (K i).known g).isSome=true
 .grind
 rw[aKi k] at u ⊢
 by_cases A:(K i).lR=true
 .grind
 rw[aKi A] at u ⊢
 dsimp only
 have A:(K i).lR=false:=by simpa using A
 have v:=h.cw i I
 rw[A] at v
 have w:∀x∈N,x.kind=6\/x.kind=12->x.core.toNat≠i:=fun x f k e=>by
  have T:=(h.nb x f (by unfold KK;omega)).1;have:=V1 (i:=i) f (by omega) k;grind
 have O:∀J y,iX N J y->iX (dM 6 i (g/4)::N) J y:=fun i g R=>F8 R fun x f _=>List.mem_cons_of_mem _ f
 have q:aX K i ((K i).start g) i=(K i).start g:=dQ
 have t:∀{j:Nat},j≠i->aX K i ((K i).start g) j=K j:=fun e=>cX e
 have p:(dM 6 (i:Int) (g/4)).core.toNat=i:=Int.toNat_natCast i
 constructor
 case cw=>
  intro j o
  rw[pO]
  by_cases e:j=i
  .subst e;rw[q,v,aKj ⟨rfl,.inl rfl⟩];rfl
  .rw[t e,aKi (fun E=>e (by grind))];exact h.cw j o
 case no=>
  intro x f k
  rcases List.mem_cons.1 f with rfl|f
  .rw[p,q];rfl
  .rw[t (w x f k)];exact h.no x f k
 case pl=>
  intro j o
  by_cases e:j=i
  .subst e;rw[q];exact fun _=> .inl rfl
  .rw[t e];exact h.pl j o
 case word=>
  intro x f k
  rcases List.mem_cons.1 f with rfl|f
  .exact absurd (show(6:Int)=12 from k) (by decide)
  .rw[t (w x f (.inr k))];have:=h.word x f k;exact⟨this.1,fun a b c=>⟨(this.2 a b c).1,fun d=>O _ _ ((this.2 a b c).2 d)⟩⟩
 case known=>
  intro j o x f
  have f:x∈(K j).known:=by
   by_cases e:j=i;subst e;rw[q] at f;exact f;grind
  have:=h.known j o x f
  grind
 case nd=>
  intro j o
  by_cases e:j=i
  .subst e;rw[q];refine⟨(h.nd j o).1,fun _ P=>k ?_⟩;obtain⟨x,f,D⟩:=List.mem_map.1 P;unfold mI;rw[Option.isSome_map,List.find?_isSome];exact⟨x,f,decide_eq_true D⟩
  .rw[t e];exact h.nd j o
 case gr=>
  intro j o
  by_cases e:j=i
  .subst e;rw[q];exact B
  .rw[t e];exact h.gr j o
 case lock=>exact h.lock
 case cd=>
  intro y j o
  rw[nT,aKi (fun E=>by rcases E.2.2 with F|F<;>exact absurd (show(6:Int)=_ from F) (by decide))]
  exact h.cd y j o
 case nb=>
  intro x f k
  rcases List.mem_cons.1 f with rfl|f
  .exact⟨⟨by show(0:Int)<=i;omega,I⟩,fun e=>by rcases e with e|e<;>exact absurd (show(6:Int)=_ from e) (by decide)⟩
  .exact h.nb x f k
 case ph=>exact h.ph
theorem iL.alone {i:Nat} (h:iL C K m (n::N)) (j:(i:Int)<C.aD) (hc:n.core=(i:Int)) (b:n.kind=6\/n.kind=12):(K i).lR=true/\Mc.cw i N=0/\∀x∈N,x.kind=6\/x.kind=12->x.core.toNat≠i:=by
 have a:=h.cw i j;rw[pO,aKj ⟨hc,b⟩] at a;have d:(K i).lR=true:=by grind
 rw[d] at a;have g:Mc.cw i N=0:=by simpa using a
 refine⟨d,g,fun x f b e=>?_⟩;have k:=(h.nb x (List.mem_cons_of_mem _ f) (by unfold KK;omega)).1;have:=V1 (i:=i) f (by omega) b;omega
theorem iL.asked {i:Nat} (h:iL C K m (n::N)) (J:(m.cE.length:Int)=C.aQ) (o:m.cE.length<=16) (P:∀x∈m.cE,0<=x.owner/\x.owner<=4) (w:(i:Int)<C.aD) (hc:n.core=(i:Int)) (f:n.kind=6):
  (iS m.cE n.no).2=0/\iL C K m (sL n.core (iS m.cE n.no).1 n.no::N):=by
 obtain⟨T,W,O⟩:=h.alone w hc (.inl f)
 have R:=h.pl i w T
 have v:=h.gr i w
 have y:=h.no n List.mem_cons_self (.inl f)
 rw[E1 hc] at y
 obtain⟨g,A⟩:=Int.eq_ofNat_of_zero_le v.1
 have u:g<m.cE.length:=by omega
 have p:=cy (es:=m.cE) (g:=g) (a:=n.no) o P u (by grind)
 rw[J,<-A] at p
 refine⟨p.1,?_⟩
 have t:(sL n.core (iS m.cE n.no).1 n.no).core=n.core:=rfl
 have E:∀{B q:Nat},iX (n::N) B q->iX (sL n.core (iS m.cE n.no).1 n.no::N) B q:=fun⟨x,h1,F,I⟩=>by
  rcases List.mem_cons.1 h1 with rfl|h1;omega;exact⟨x,List.mem_cons_of_mem _ h1,F,I⟩
 have D:(sL n.core (iS m.cE n.no).1 n.no).kind=12:=rfl
 constructor
 case cw=>
  intro j k
  have:=h.cw j k
  rw[pO] at this ⊢
  grind
 case no=>
  intro x b f
  rcases List.mem_cons.1 b with rfl|b
  .rw[t,E1 hc];exact y
  .exact h.no x (List.mem_cons_of_mem _ b) f
 case pl=>exact h.pl
 case word=>
  intro x b f
  rcases List.mem_cons.1 b with rfl|b
  .rw[t,E1 hc];show Zi _ _ _ (iS m.cE n.no).1/\((K i).nO=false->(iT _ _ _ (iS m.cE n.no).1).2.2.1=true->(iT _ _ _ (iS m.cE n.no).1).2.1.locked=false->(iT _ _ _ (iS m.cE n.no).1).2.1.owner=_/\_);rw[<-y];have U:m.cE.getD g iO=m.kJ (K i).bI:=by unfold Mon.kJ;rw[A];rfl
   grind
  .have:=h.word x (List.mem_cons_of_mem _ b) f;grind
 case known=>exact fun j k x b=>⟨(h.known j k x b).1,(h.known j k x b).2.1,fun d=>E ((h.known j k x b).2.2 d)⟩
 case nd=>exact h.nd
 case gr=>exact h.gr
 case lock=>exact h.lock
 case cd=>
  intro q j k
  have:=h.cd q j k
  rw[nT,aab] at this
  rw[nT,aKi (by rw[D];omega)]
  exact this
 case nb=>
  intro x b f
  rcases List.mem_cons.1 b with rfl|b
  .exact⟨by rw[t];omega,fun e=>by rw[D] at e;omega⟩
  .exact h.nb x (List.mem_cons_of_mem _ b) f
 case ph=>exact h.ph
theorem iL.again {i:Nat} {c:jP} {a:Int} (h:iL C K m (n::N)) (E:(i:Int)<C.aD) (hc:n.core=(i:Int)) (f:n.kind=12)
  (D:c.lR=true) (k:c.bI=(K i).bI) (u:c.known=(K i).known) (t:c.at'=a) (O:a=(K i).bI/4\/a=iW C.aQ (K i).bI):
  iL C (aX K i c) m (dM 6 n.core a::N):=by
 obtain⟨F,J,o⟩:=h.alone E hc (.inr f)
 have w:(dM 6 n.core a).core=n.core:=rfl
 have v:(dM 6 n.core a).kind=6:=rfl
 have I:∀{y p:Nat},iX (n::N) y p->iX (dM 6 n.core a::N) y p:=fun⟨x,h1,A,B⟩=>by
  rcases List.mem_cons.1 h1 with rfl|h1;omega;exact⟨x,List.mem_cons_of_mem _ h1,A,B⟩
 have q:aX K i c i=c:=dQ
 have g:∀{j:Nat},j≠i->aX K i c j=K j:=fun e=>cX e
 constructor
 case cw=>
  intro j d
  rw[pO,w,v]
  by_cases e:j=i
  .grind
  .have:=h.cw j d;rw[pO,aab] at this;grind
 case no=>
  intro x b f
  rcases List.mem_cons.1 b with rfl|b
  .rw[w,E1 hc,q,t];rfl
  .rw[g (o x b f)];exact h.no x (List.mem_cons_of_mem _ b) f
 case pl=>
  intro j d
  by_cases e:j=i
  .grind
  .rw[g e];exact h.pl j d
 case word=>
  intro x b f
  rcases List.mem_cons.1 b with rfl|b
  .rw[v] at f;omega
  .rw[g (o x b (.inr f))];have:=h.word x (List.mem_cons_of_mem _ b) f;grind
 case known=>
  intro j d x b
  have b:x∈(K j).known:=by
   by_cases e:j=i;grind;grind
  have:=h.known j d x b
  grind
 case nd=>
  intro j d
  by_cases e:j=i
  .subst e;rw[q,u,k];exact⟨(h.nd j d).1,fun _=>(h.nd j d).2 F⟩
  .rw[g e];exact h.nd j d
 case gr=>
  intro j d
  by_cases e:j=i
  .subst e;rw[q,k];exact h.gr j d
  .rw[g e];exact h.gr j d
 case lock=>exact h.lock
 case cd=>
  intro p j d
  have:=h.cd p j d
  rw[nT,aab] at this
  rw[nT,aKi (by rw[v];omega)]
  exact this
 case nb=>
  intro x b f
  rcases List.mem_cons.1 b with rfl|b
  .grind
  .exact h.nb x (List.mem_cons_of_mem _ b) f
 case ph=>exact h.ph
theorem iL.mq {i:Nat} {o:Int} {d:Nat} (h:iL C K m (n::N)) (B:(i:Int)<C.aD) (hc:n.core=(i:Int)) (g:n.kind=12) (A:1<=C.aQ)
  (t:o=(m.kJ (K i).bI).owner/\((m.kJ (K i).bI).locked=true->iX (n::N) i (K i).bI.toNat)):
  iL C (aX K i ⟨false,0,0,false,(K i).known.drop d++[((K i).bI,o)]⟩) m N:=by
 obtain⟨E,D,k⟩:=h.alone B hc (.inr g)
 have v:∀{u p:Nat},iX (n::N) u p->iX N u p:=fun⟨x,h1,w,y⟩=>by
  rcases List.mem_cons.1 h1 with rfl|h1;omega;exact⟨x,h1,w,y⟩
 have q:∀c:jP,aX K i c i=c:=fun _=>dQ
 have f:∀{j:Nat} {c:jP},j≠i->aX K i c j=K j:=fun e=>cX e
 have em:∀x,x∈N->x∈n::N:=fun x=>List.mem_cons_of_mem _
 constructor
 case cw=>
  intro j b
  by_cases e:j=i
  .grind
  .have:=h.cw j b;rw[pO,aab] at this;rw[f e];exact this
 case no=>exact fun x a g=>by rw[f (k x a g)];exact h.no x (em x a) g
 case pl=>
  intro j b
  by_cases e:j=i
  .grind
  .rw[f e];exact h.pl j b
 case word=>
  intro x a g
  rw[f (k x a (.inr g))]
  have:=h.word x (em x a) g
  grind
 case known=>
  intro j b x a
  by_cases e:j=i
  .subst e;rw[q] at a;rcases List.mem_append.1 a with a|a
   .have:=h.known j b x (List.mem_of_mem_drop a);grind
   .rw[List.mem_singleton.1 a];exact⟨h.gr j b,t.1,fun d=>v (t.2 d)⟩
  .rw[f e] at a;have:=h.known j b x a;grind
 case nd=>
  intro j b
  by_cases e:j=i
  .subst e;rw[q];refine⟨?_,fun e=>by cases e⟩;have h1:=h.nd j b;grind
  .rw[f e];exact h.nd j b
 case gr=>
  intro j b
  by_cases e:j=i
  .grind
  .rw[f e];exact h.gr j b
 case lock=>exact h.lock
 case cd=>
  intro p j b
  have:=h.cd p j b
  rw[nT,aab] at this
  exact this
 case nb=>exact fun x a=>h.nb x (em x a)
 case ph=>exact h.ph
theorem iL.walked {i:Nat} (h:iL C K m (n::N)) (g:(i:Int)<C.aD) (hc:n.core=(i:Int)) (b:n.kind=12) (j:1<=C.aQ):
  ((K i).walked C n.no n.d0).2.2.2=0/\iL C (aX K i ((K i).walked C n.no n.d0).1) m ((if((K i).walked C n.no n.d0).2.2.1 then [] else [dM 6 n.core ((K i).walked C n.no n.d0).2.1])++N):=by
 obtain⟨o,v,u⟩:=h.alone g hc (.inr b)
 have k:=h.no n List.mem_cons_self (.inr b)
 have a:=h.word n List.mem_cons_self b
 rw[E1 hc] at k a
 unfold jP.walked
 rw[aKi (by rw[o];simp),aKi (by rw[k];simp)]
 cases hst:(K i).nO with
 |true=>
  rw[aKj rfl]
  exact⟨rfl,h.again g hc b o rfl rfl rfl (.inl rfl)⟩
 |false=>
  rw[aKi (by simp),k]
  dsimp only
  rw[k] at*
  rw[aKi (by rw[a.1.1];simp)]
  by_cases p:(iT C.aQ (K i).bI (K i).at' n.d0).2.2.1=true/\(iT C.aQ (K i).bI (K i).at' n.d0).2.1.locked=true
  .rw[aKj p];exact⟨rfl,h.again (c:=(K i).goto ((K i).bI/4)) g hc b o rfl rfl rfl (.inl rfl)⟩
  .rw[aKi p];by_cases f:(iT C.aQ (K i).bI (K i).at' n.d0).2.2.1=false
   .rw[aKj f];exact⟨rfl,h.again (c:=(K i).goto _) g hc b o rfl rfl rfl (.inr (a.1.2 f).1)⟩
   .rw[aKi f];have f:(iT C.aQ (K i).bI (K i).at' n.d0).2.2.1=true:=by simpa using f
    refine⟨rfl,?_⟩
    have t:(iT C.aQ (K i).bI (K i).at' n.d0).2.1.locked=false:=by
     cases e:(iT C.aQ (K i).bI (K i).at' n.d0).2.1.locked with
     |true=>exact absurd ⟨f,e⟩ p
     |false=>rfl
    have q:=a.2 hst f t
    by_cases d:((K i).known.length:Int)>=C.entries
    .have e:((K i).Ar C ((K i).bI,(iT C.aQ (K i).bI (K i).at' n.d0).2.1.owner)).done=⟨false,0,0,false,(K i).known.drop 1++[((K i).bI,(iT C.aQ (K i).bI (K i).at' n.d0).2.1.owner)]⟩:=by
      unfold jP.Ar jP.done;rw[aKj d]
     rw[e];exact h.mq g hc b j q
    .have e:((K i).Ar C ((K i).bI,(iT C.aQ (K i).bI (K i).at' n.d0).2.1.owner)).done=⟨false,0,0,false,(K i).known.drop 0++[((K i).bI,(iT C.aQ (K i).bI (K i).at' n.d0).2.1.owner)]⟩:=by
      unfold jP.Ar jP.done;rw[aKi d];rfl
     rw[e];exact h.mq g hc b j q
end
section
variable {C:bN} {K:Nat->jP} {m:Mon} {N N':List aH} {n:aH}
theorem Ih {m:Mon} {g:Nat} {x:gZ} {k:Int} (b:0<=k) (a:g<m.cE.length):(m.oY g x).kJ k=if k=g then x else m.kJ k:=by
 unfold Mon.kJ Mon.oY;dsimp only;rw[List.getD_eq_getElem?_getD,List.getElem?_set,List.getD_eq_getElem?_getD];by_cases e:k=(g:Int);rw[aac,aac,aKj e];rfl;rw[aab,aKi e]
theorem iL.dropped {i:Nat} (h:iL C K m (n::N)) (P:(i:Int)<C.aD) (hc:n.core=(i:Int)) (F:n.kind=13) (I:0<=n.no/\n.no<C.aQ):
  ((K i).drop C n.no).2=0/\iL C (aX K i ((K i).drop C n.no).1) m (dM 7 n.core n.no::N):=by
 unfold jP.drop
 rw[aab]
 refine⟨rfl,?_⟩
 dsimp only
 obtain⟨g,hg⟩:=Int.eq_ofNat_of_zero_le I.1
 have ec:(dM 7 n.core n.no).core=n.core:=rfl
 have eo:(dM 7 n.core n.no).no=n.no:=rfl
 have O:(dM 7 n.core n.no).kind=7:=rfl
 generalize y:({(K i) with known:=(K i).known.filter (fun x=> !decide (n.no= -1\/x.1=n.no)),nO:=(K i).nO||((K i).lR&&decide (n.no= -1\/(K i).bI=n.no))}:jP)=c
 have q:c.lR=(K i).lR:=by rw[<-y]
 have B:c.bI=(K i).bI:=by rw[<-y]
 have A:c.at'=(K i).at':=by rw[<-y]
 have E:c.nO=false->(K i).nO=false/\((K i).lR=true->(K i).bI≠n.no):=by
  grind
 have D:∀x,x∈c.known↔x∈(K i).known/\x.1≠n.no:=by
  grind
 have p:(c.known.map (·.1)).Sublist ((K i).known.map (·.1)):=by
  rw[<-y];exact List.Sublist.map _ List.filter_sublist
 have R:∀{J v:Nat},¬(J=i/\(v:Int)=n.no)->iX (n::N) J v->iX (dM 7 n.core n.no::N) J v:=fun α ⟨x,h1,T,U,W⟩=>by
  rcases List.mem_cons.1 h1 with rfl|h1;grind;exact⟨x,List.mem_cons_of_mem _ h1,T,U,W⟩
 have t:aX K i c i=c:=dQ
 have u:∀{j:Nat},j≠i->aX K i c j=K j:=fun e=>cX e
 have em:∀x,x∈N->x∈n::N:=fun x=>List.mem_cons_of_mem _
 have Y:=h.gr i P
 constructor
 case cw=>
  intro j k
  have:=h.cw j k
  rw[pO,aab] at this
  rw[pO,aKi (by rw[O];omega),this]
  grind
 case no=>
  intro x f F
  rcases List.mem_cons.1 f with rfl|f
  .rw[O] at F;omega
  .have:=h.no x (em x f) F;by_cases e:x.core.toNat=i
   .rw[e] at this ⊢;rw[t,A];exact this
   .rw[u e];exact this
 case pl=>
  intro j k
  by_cases e:j=i
  .subst e;rw[t,q,A,B];exact h.pl j k
  .rw[u e];exact h.pl j k
 case word=>
  intro x f o
  rcases List.mem_cons.1 f with rfl|f
  .rw[O] at o;omega
  .have:=h.word x (em x f) o;by_cases e:x.core.toNat=i
   .rw[e] at this ⊢;rw[t,A,B];refine⟨this.1,fun a b c=>?_⟩;have hw:(K i).lR=true:=by
     have hb:=(h.nb x (em x f) (by unfold KK;omega)).1;have h1:=h.cw i P;have:=V1 (i:=i) (em x f) (by omega) (.inr o);grind
    exact⟨(this.2 (E a).1 b c).1,fun d=>R (fun e2=>(E a).2 hw (by omega)) ((this.2 (E a).1 b c).2 d)⟩
   grind
 case known=>
  intro j k x f
  by_cases e:j=i
  .subst e;rw[t] at f;have f:=(D x).1 f;have:=h.known j k x f.1;grind
  .rw[u e] at f;have:=h.known j k x f;grind
 case nd=>
  intro j k
  by_cases e:j=i
  .subst e;rw[t,q,B];exact⟨(h.nd j k).1.sublist p,fun w Z=>(h.nd j k).2 w (p.mem Z)⟩
  .rw[u e];exact h.nd j k
 case gr=>
  intro j k
  by_cases e:j=i
  .grind
  .rw[u e];exact h.gr j k
 case lock=>exact h.lock
 case cd=>
  intro v j k
  have:=h.cd v j k
  rw[nT] at this ⊢
  grind
 case nb=>
  intro x f o
  rcases List.mem_cons.1 f with rfl|f
  .grind
  .exact h.nb x (em x f) o
 case ph=>exact h.ph
theorem Dg {m:Mon} {g a i:Nat} {x:Option Mc.jG}:B1 (m.cQ g x) a i=if a=g then(match x with|some r=>(r.waits i).toNat|none=>0) else B1 m a i:=by
 unfold B1 Mon.cQ aX;grind
theorem iL.heard {i g:Nat} (hC:C.Ok) (h:iL C K m (n::N)) (E:iA C m) (U:(i:Int)<C.aD) (hc:n.core=(i:Int)) (Y:n.kind=7) (p:n.no=(g:Int)):
  ∃r,m.runs g=some r/\r.phase=1/\r.waits i=true/\m.dropped C.aD n.no n.core=(m.cQ g (some (r.heard i).hZ),(r.heard i).none,0)/\iL C K (m.cQ g (some (r.heard i).hZ)) N:=by
 have h1:=h.cd g i U
 rw[nT,aKj ⟨hc,p,.inr Y⟩] at h1
 unfold B1 at h1
 have W:i<4:=by have:=hC.1;omega
 cases hr:m.runs g with
 |none=>rw[hr] at h1;simp at h1
 |some r=>
  rw[hr] at h1
  dsimp only at h1
  have B:r.waits i=true:=by
   cases e:r.waits i with
   |true=>rfl
   |false=>rw[e] at h1;simp at h1
  rw[B] at h1
  have P:Mc.cd i g N=0:=by simpa using h1
  have A:=h.ph g r hr
  have v:=E.run g r hr
  have d:r.none=false:=by
   have:i=0\/i=1\/i=2\/i=3:=by omega
   unfold jG.none;rcases this with rfl|rfl|rfl|rfl<;>rw[B]<;>simp
  have y:r.phase=1:=by
   rcases v.2.2.1 with e|e;exact e;have:=A.1.1 e;rw[d] at this;cases this
  have D:m.has n.no:=by
   unfold Mon.has;have:=E.len;omega
  have F:m.run n.no=some r:=by unfold Mon.run;rw[aac,p,Int.toNat_natCast,hr]
  have q:(r.heard i).hZ.waits=gQ r.waits i false:=rfl
  have w:(r.heard i).hZ.none=(r.heard i).none:=rfl
  refine⟨r,rfl,y,B,?_,?_⟩
  .unfold Mon.dropped;grind
  have e3:∀{I b:Nat},iX (n::N) I b->iX N I b:=fun⟨x,h1,R,T⟩=>by
   rcases List.mem_cons.1 h1 with rfl|h1;omega;exact⟨x,h1,R,T⟩
  have em:∀x,x∈N->x∈n::N:=fun x=>List.mem_cons_of_mem _
  have O:∀k,(m.cQ g (some (r.heard i).hZ)).kJ k=m.kJ k:=fun _=>rfl
  constructor
  case cw=>
   intro j o
   have:=h.cw j o
   rw[pO,aab] at this
   exact this
  case no=>exact fun x f=>h.no x (em x f)
  case pl=>exact h.pl
  case word=>
   intro x f u
   have:=h.word x (em x f) u
   grind
  case known=>
   intro j o x f
   have:=h.known j o x f
   grind
  case nd=>exact h.nd
  case gr=>exact h.gr
  case lock=>
   intro b t
   rw[O,h.lock b t]
   unfold Mon.cQ aX
   grind
  case cd=>
   intro b j o
   have:=h.cd b j o
   rw[nT] at this
   rw[Dg]
   by_cases e:b=g
   .subst e;rw[aKj rfl];dsimp only;rw[q];by_cases J:j=i
    .subst J;rw[P];unfold gQ;rw[aKj rfl];rfl
    .rw[aab] at this;unfold gQ;rw[aab];unfold B1 at this;grind
   grind
  case nb=>exact fun x f=>h.nb x (em x f)
  case ph=>
   intro b Z a
   unfold Mon.cQ aX at a
   dsimp only at a
   by_cases e:b=g
   .rw[aKj e] at a;cases a;refine⟨?_,fun j o=>?_⟩
    .rw[w];show(if(r.heard i).none=true then(2:Int) else r.phase)=2↔_;grind
    .rw[q];unfold gQ;grind
   .rw[aKi e] at a;exact h.ph b Z a
theorem Bc {aD g:Int} {x:aH} (h:x∈tH aD g):x.kind=13/\x.no=g/\∃j:Nat,(j:Int)<aD/\x=dM 13 j g:=by
 unfold tH at h;obtain⟨j,a,rfl⟩:=List.mem_map.1 h;have:=List.mem_range.1 a;exact⟨rfl,rfl,j,by omega,rfl⟩
theorem pf {aD:Int} {g a i:Nat} (f:(i:Int)<aD):cd i a (tH aD g)=if a=g then 1 else 0:=by
 unfold tH;obtain⟨n,b⟩:∃n:Nat,aD.toNat=n/\i<n:=⟨aD.toNat,rfl,by omega⟩;rw[b.1];have e:∀n:Nat,cd i a ((List.range n).map fun j:Nat=>dM 13 j g)=if i<n/\a=g then 1 else 0:=by
  intro n;induction n with
  |zero=>rfl
  |succ n d=>
   rw[List.range_succ,List.map_append,xa,d];show _+cd i a (dM 13 n g::[])=_;rw[nT];show _+(0+if(n:Int)=(i:Int)/\(g:Int)=(a:Int)/\((13:Int)=13\/(13:Int)=7) then 1 else 0)=_;grind
 grind
theorem iL.calls {a:Mc.Ask} {g:Nat} {j:Int×Bool×Int} (hC:C.Ok) (h:iL C K m N) (W:(m.cE.length:Int)=C.aQ) (U:(g:Int)<C.aQ) (O:m.runs g=none):
  iL C K ((m.oY g ⟨(m.kJ g).owner,true⟩).cQ g (some (a.run C.aD j))) (tH C.aD g++N):=by
 have I:C.aD<=4:=hC.1.2
 have P:∀{p f:Nat},iX N p f->iX (tH C.aD g++N) p f:=fun J=>F8 J fun x b _=>List.mem_append.2 (.inr b)
 have R:∀p:Nat,(p:Int)<C.aD->iX (tH C.aD g++N) p g:=fun p F=>⟨dM 13 p g,List.mem_append.2 (.inl (List.mem_map.2 ⟨p,List.mem_range.2 (by omega),rfl⟩)),rfl,rfl,rfl⟩
 have em:∀x,x∈tH C.aD g++N->x.kind≠13->x∈N:=fun x b o=>by
  rcases List.mem_append.1 b with b|b;exact absurd (Bc b).1 o;exact b
 have v:g<m.cE.length:=by omega
 have y:∀k:Int,0<=k->((m.oY g ⟨(m.kJ g).owner,true⟩).cQ g (some (a.run C.aD j))).kJ k=if k=g then⟨(m.kJ g).owner,true⟩ else m.kJ k:=fun k o=>Ih o v
 have D:∀x∈N,x.kind=6\/x.kind=12->(x.core.toNat:Int)<C.aD:=fun x b o=>by have:=(h.nb x b (by unfold KK;omega)).1;omega
 constructor
 case cw=>
  intro i q
  rw[aDe]
  have:Mc.cw i (tH C.aD g)=0:=by
   refine List.countP_eq_zero.2 fun x b=>?_;have:=(Bc b).1;grind
  rw[this,Nat.zero_add];exact h.cw i q
 case no=>exact fun x b o=>h.no x (em x b (by omega)) o
 case pl=>exact h.pl
 case word=>
  intro x b o
  have b:=em x b (by omega)
  have t:=D x b (.inr o)
  have:=h.word x b o
  have E:=h.gr _ t
  grind
 case known=>
  intro i q x b
  have:=h.known i q x b
  grind
 case nd=>exact h.nd
 case gr=>exact h.gr
 case lock=>
  intro f u
  rw[y _ (by omega)]
  show _↔(aX m.runs g _ f).isSome=true
  unfold aX
  by_cases e:f=g
  .subst e;simp
  .rw[aab,aKi e];exact h.lock f u
 case cd=>
  intro f i q
  rw[xa,Dg,pf q,h.cd f i q]
  by_cases e:f=g
  .subst e;rw[aKj rfl,aKj rfl];have:B1 m f i=0:=by unfold B1;rw[O]
   rw[this]
   show 1+0=(decide ((i:Int)<C.aD)).toNat
   grind
  .rw[aKi e,aKi e,Nat.zero_add];rfl
 case nb=>
  intro x b o
  rcases List.mem_append.1 b with b|b
  .obtain⟨T,A,k,B,rfl⟩:=Bc b;exact⟨⟨by show(0:Int)<=k;omega,B⟩,fun _=>by rw[A];omega⟩
  .exact h.nb x b o
 case ph=>
  intro f w d
  have d:aX m.runs g (some (a.run C.aD j)) f=some w:=d
  unfold aX at d
  by_cases e:f=g
  .rw[aKj e] at d;cases d;refine⟨?_,fun i q=>decide_eq_false (by omega)⟩;show(1:Int)=2↔(!(decide (((0:Nat):Int)<C.aD)||_||_||_))=true;have:=hC.1.1;grind
  .rw[aKi e] at d;exact h.ph f w d
theorem iL.over {g:Nat} {r:Mc.jG} {o:Int} (hC:C.Ok) (h:iL C K m N) (T:(m.cE.length:Int)=C.aQ) (I:(g:Int)<C.aQ) (A:m.runs g=some r) (y:r.phase=2):
  iL C K ((m.oY g ⟨o,false⟩).cQ g none) N/\(∀i:Nat,(i:Int)<C.aD->∀x∈(K i).known,x.1≠g):=by
 have u:g<m.cE.length:=by omega
 have D:∀k:Int,0<=k->((m.oY g ⟨o,false⟩).cQ g none).kJ k=if k=g then⟨o,false⟩ else m.kJ k:=fun k p=>Ih p u
 have w:(m.kJ g).locked=true:=(h.lock g I).2 (by rw[A];rfl)
 have j:=(h.ph g r A).1.1 y
 have P:∀i:Nat,(i:Int)<C.aD->r.waits i=false:=fun i d=>by
  have:i=0\/i=1\/i=2\/i=3:=by have:=hC.1;omega
  unfold jG.none at j;grind
 have O:∀i:Nat,(i:Int)<C.aD->¬iX N i g:=fun i d y=>by
  have R:=aAq y;have E:=h.cd g i d;unfold B1 at E;grind
 have F:∀x∈N,x.kind=6\/x.kind=12->(x.core.toNat:Int)<C.aD:=fun x f p=>by have:=(h.nb x f (by unfold KK;omega)).1;omega
 have v:∀i:Nat,(i:Int)<C.aD->∀x∈(K i).known,x.1≠g:=fun i d x f e=>by
  have:=(h.known i d x f).2.2 (by rw[e];exact w);grind
 refine⟨?_,v⟩
 constructor
 case cw=>exact h.cw
 case no=>exact h.no
 case pl=>exact h.pl
 case word=>
  intro x f p
  have q:=F x f (.inr p)
  have:=h.word x f p
  have J:=h.gr _ q
  grind
 case known=>
  intro i d x f
  have:=h.known i d x f
  grind
 case nd=>exact h.nd
 case gr=>exact h.gr
 case lock=>
  intro b t
  rw[D _ (by omega)]
  show _↔(aX m.runs g none b).isSome=true
  unfold aX
  by_cases e:b=g
  .subst e;simp
  .rw[aab,aKi e];exact h.lock b t
 case cd=>
  intro b i d
  rw[Dg,h.cd b i d]
  by_cases e:b=g
  .subst e;rw[aKj rfl];unfold B1;grind
  .rw[aKi e];rfl
 case nb=>exact h.nb
 case ph=>
  intro b B a
  have a:aX m.runs g none b=some B:=a
  unfold aX at a
  by_cases e:b=g
  .grind
  .rw[aKi e] at a;exact h.ph b B a
end
end Go.Mc
namespace Go.Pc
open Go Go.Ab Go.Hm Go.Ct
section
variable {l:Nat} {r:Row} {m V:Ln} {c:ui} {N:List aH} {n:aH}
structure Clean (r:Row):Prop where
 busy:r.busy=false
 owner:r.owner= -1
 sh:∀i,i<4->r.sh i=false
def Jm (r:Row):Prop:=(r.busy=true/\r.served.kind=0)\/∃x∈r.waits,x.kind=0
def Ll (r:Row):Prop:=Jm r\/Clean r
theorem Ll.wait (h:Ll r):Ll (r.wait n):=by
 rcases h with(h|⟨x,a,k⟩)|h;exact .inl (.inl h);exact .inl (.inr ⟨x,List.mem_append.2 (.inl a),k⟩);exact .inr ⟨h.busy,h.owner,h.sh⟩
theorem Ey:Jm (r.wait (mW l)):= .inr ⟨mW l,List.mem_append.2 (.inr (by simp)),rfl⟩
theorem rB:(r.heard n).waits=r.waits:=by
 unfold Row.heard;split;rfl;split<;>split<;>rfl
theorem rQ {line:Int} {d:Ln}:(r.eC line d).1.waits=r.waits:=by
 unfold Row.eC;grind
theorem Ll.take (h:Ll r) (b:Inv l r m V c (n::N)) (_Z:1<=n.kind/\n.kind<=5):Ll (mT.take (r,m) l n).1.1:=by
 unfold mT.take;by_cases E:n.kind=4;rw[aKj E];obtain⟨v,O,Y⟩:=b.wg E;rw[aKi (by show ¬(r.granted=false\/r.served.core≠n.core);rw[v];simp;exact O)];rcases h with(h|⟨x,D,k⟩)|h;exact absurd h.2 (b.kg v);exact .inl (.inr ⟨x,D,k⟩);have:=b.row.gb v;rw[h.busy] at this;cases this;rw[aKi E];by_cases p:n.kind=5;rw[aKj p];have I:=b.nc n (by simp);obtain⟨i,A,y,f⟩:=fK I.2;obtain⟨F,R,w,_,_⟩:=b.Yp p A y;rw[aKi (by show ¬r.asked n.core.toNat=false;rw[f,F];simp)];obtain⟨_,P⟩:=b.nI p;show Ll (mT.nI (r,m) l n).1.1;have U:(mT.nI (r,m) l n).1.1.waits=r.waits:=by
  unfold mT.nI Row.rest;dsimp only;split;split;exact rB;rw[rQ];exact rB;exact rB
 rcases h with(h|⟨x,D,k⟩)|h;have g:=C4 b.row I.2 (by rw[f];exact F);have q:r.heard n=(r.eT n).leave n.core:=by unfold Row.heard;rw[aac]
 unfold mT.nI Row.rest;dsimp only;by_cases B:(r.heard n).quiet=true;rw[aKj B,aKj (by rw[yA];exact h.2)];right;have d:∀j:Nat,j<4->(r.heard n).sh j=false/\(r.heard n).owner≠(j:Int):=fun j J=>by
  have T:=b.k2 w R (by omega) j J (fun e=>by omega);have o:=fZ B J;have a:(r.heard n).asked j=gQ r.asked n.core false j:=by rw[q];rfl
  have u:(r.heard n).sh j=gQ r.sh n.core false j:=by rw[q];rfl
  have t:(r.heard n).owner=if r.owner=n.core then -1 else r.owner:=by rw[q];rfl
  rw[a] at o;rw[u,t];unfold gQ at o ⊢;grind
 refine⟨rfl,?_,fun i A=>(d i A).1⟩;show(r.heard n).owner= -1;have ho:=g.owner;have W:=d (r.heard n).owner.toNat;omega;rw[aKi B];left;left;exact⟨g.busy,by rw[yA];exact h.2⟩;exact .inl (.inr ⟨x,by rw[U];exact D,k⟩);rw[h.busy] at w;cases w;rw[aKi p];exact h.wait
theorem Ll.begun {w:List aH} {j:Int->Int×Bool} (h:Ll r) (hb:r.busy=false) (t:r.waits=n::w) (q:Inv l r m V c N) (B:∀x,(j x).2=false):Ll (Row.begun (r.next w) l m n j).1.1:=by
 have d:n.kind≠0->Ll (r.next w):=fun y=>by
  rcases h with(h|⟨x,e,k⟩)|h;grind;rw[t] at e;rcases List.mem_cons.1 e with rfl|e;exact absurd k y;exact .inl (.inr ⟨x,e,k⟩);exact .inr ⟨h.busy,h.owner,h.sh⟩
 unfold Row.begun;by_cases u:n.kind=3;rw[aKj u];rcases d (by omega) with(h|⟨x,e,k⟩)|h;exact .inl (.inl h);exact .inl (.inr ⟨x,e,k⟩);refine .inr ⟨h.busy,?_,fun i o=>?_⟩;show(if(r.next w).owner=n.core then(-1:Int) else(r.next w).owner)= -1;split;rfl;exact h.owner;show gQ (r.next w).sh n.core false i=false;unfold gQ;split;rfl;exact h.sh i o;rw[aKi u];by_cases p:n.kind=1\/n.kind=2;grind;rw[aKi p];have v:=q.row.waits n (by rw[t];simp);by_cases g:(r.next w).first (-1)= -1
 rw[aKj g];have f:=F3.1 g;have D:=q.row.owner;right;refine⟨hb,?_,fun i o=>(f i o (by omega)).1⟩;show r.owner= -1;have A:r.owner.toNat<4->((r.owner.toNat:Nat):Int)≠ -1->((r.owner.toNat:Nat):Int)≠r.owner:=fun a b=>(f r.owner.toNat a b).2;omega;rw[aKi g];exact .inl (.inl ⟨rfl,by show n.kind=0;omega⟩)
theorem Inv.clean (h:Inv l r m V c N) (hc:Clean r):(∀i,i<4->HH l r c N i=0)/\∀x∈N,x.kind≠8/\x.kind≠5/\x.kind≠11:=by
 obtain⟨p,t,_⟩:=h.idle hc.busy;have g:∀x∈N,x.kind≠8/\x.kind≠5/\x.kind≠11:=fun x o=>by
  have q:=h.nc x o;obtain⟨j,u,f,_⟩:=fK q.2;have d:=h.calm p o;exact⟨fun k=>h.no8 u (by unfold vY;rw[t];simp) o k f,d.1,d.2⟩
 refine⟨fun i a=>?_,g⟩;have b:=h.c1 i a (by have:=h.t3 i a;rw[fZ p a] at this;simp at this;omega) (by have:=h.t4 i a;unfold vY at this;grind);have v:0<=HH l r c N i:=by have:=h.uC i a;unfold HH tV;grind
 have d:HH l r c N i≠1:=fun e=>by have:=b.1.1 e;rw[hc.sh i a] at this;cases this
 have w:¬2<=HH l r c N i:=fun e=>by have:=b.2.1 e;rw[hc.owner] at this;omega
 omega
end
end Go.Pc
namespace Go.Mc
open Go Go.Ab Go.Hm Go.At Go.Is Go.Ct Go.Nt Go.Pc
section
structure RY (C:bN) (M:cU) (V:Nat->Ln):Prop where
 Lj:nG C M.home M.cG V (qT C M.iC)
 nC:iL C M.cA M.bZ (qT C M.iC)
 swp:∀g r,M.bZ.runs g=some r->r.phase=2->Ll (M.home (g*2)).1/\Ll (M.home (g*2+1)).1
 ask:∀g r,M.bZ.runs g=some r->aT.Bx (M.bC r.core.toNat) r.core.toNat=some ⟨r.core,r.world,r.call,g,r.to⟩/\gX r.call r.world (M.bZ.kJ g).owner r.to=(r.then',r.lC,0)
variable {C:bN} {N:Nat} {M M':cU} {V V':Nat->Ln}
theorem br (hC:C.Ok) (a:dU C N M) {i:Nat} (f:M.bZ.calls i=false) {g:Nat} {r:Mc.jG} (b:M.bZ.runs g=some r):r.core.toNat≠i:=fun e=>by
 have d:=(a.bZ.run g r b).2.2.2.1;have:M.bZ.calls i=true:=(Ov hC a.bZ).2 ⟨g,by unfold rc;grind⟩;grind
theorem RY.turns (hC:C.Ok) (k:dU C N M) (h:RY C M V) {i:Nat} {s:aT} {M1:cU} (o:M.bZ.calls i=false)
  (f:M1.bC=aX M.bC i s) (a:M1.bZ=M.bZ) (b:M1.home=M.home) (j:M1.cA=M.cA) (d:M1.iC=M.iC)
  (hc:nG C M.home M1.cG V' (qT C M.iC)):RY C M1 V':=by
 constructor
 case Lj=>rw[b,d];exact hc
 case nC=>rw[a,j,d];exact h.nC
 case swp=>rw[a,b];exact h.swp
 case ask=>
  rw[a,f]
  intro g r e
  have:=br hC k o e
  unfold aX
  rw[aKi this]
  exact h.ask g r e
theorem Qc {s:aT} {i:Nat} {a:Acc} {v c:Int} (h:aT.uR s=some a) (hc:c=0\/c=19):(aT.bQ s i v c).2.2=0:=by
 unfold aT.uR at h;unfold aT.bQ;cases hn:aT.next? s with
 |none=>rw[hn] at h;cases h
 |some x=>
  rw[hn] at h;dsimp only at h ⊢;by_cases b:Fo x.op=true
  .rw[aKi (by unfold Fo at b;simp at b;omega),aKj b,aab];repeat' split
   all_goals rfl
  rw[aKi b] at h;cases h
theorem uk {s:aT} {i:Nat} {a:Mc.Ask} (h:aT.Bx s i=some a):∃x,aT.next? s=some x/\x.op=8/\a=⟨i,s.world,x.a,s.dX x.b.toNat,s.dX x.c.toNat⟩:=by
 unfold aT.Bx at h;grind
theorem Z9 {s:aT} {i:Nat} {a:Mc.Ask} {v c:Int} (h:aT.Bx s i=some a):(aT.bQ s i v c).2.2=0:=by
 unfold aT.Bx at h;unfold aT.bQ;cases hn:aT.next? s with
 |none=>rw[hn] at h;cases h
 |some x=>
  rw[hn] at h;dsimp only at h ⊢;by_cases b:x.op=8;rw[aKj b];rw[aKi b] at h;cases h
theorem RY.Hz (hC:C.Ok) (j:dU C N M) (h:RY C M V) {i:Nat} {v code:Int} {M1:cU} (k:M.bZ.calls i=false)
  (a:M1.bC=M.bC) (b:M1.bZ=M.bZ) (d:M1.home=M.home) (e:M1.cA=M.cA) (f:M1.iC=M.iC) (hc:nG C M.home M1.cG V' (qT C M.iC))
  (g:(aT.bQ (M.bC i) i v code).2.2=0):RY C (M1.bQ i v code).1 V':=by
 unfold cU.bQ
 dsimp only
 rw[a,aKi (by rw[g];simp)]
 exact h.turns (s:=(aT.bQ (M.bC i) i v code).1) hC j k (by grind) b d e f hc
theorem RY.aJ9 (h:RY C M V) {out:List aH} {X:Nat->iH} {M1:cU} (d:(qT C M1.iC).Perm (out++qT C M.iC)) (i:∀x∈out,¬KK x.kind)
  (e:M1.bC=M.bC) (a:M1.bZ=M.bZ) (b:M1.home=M.home) (f:M1.cA=M.cA) (g:M1.cG=X) (hc:nG C M.home X V (out++qT C M.iC)):RY C M1 V:=by
 constructor
 case Lj=>rw[b,g];exact hc.perm d.symm
 case nC=>rw[a,f];exact(h.nC.more i).perm d.symm
 case swp=>rw[a,b];exact h.swp
 case ask=>rw[a,e];exact h.ask
theorem wi {n:Nat} {S:Nat->List Th} {l a:Int} {w:Bool} (h:Ct.mZ n S l a w=true):(bB n S l).2=0:=by
 unfold Ct.mZ at h;grind
theorem Sd {S:Nat->List Th} {l a b:Int} {w:Bool} (f:0<=l/\l<C.lines) (e:a=0\/a=1) (d:Ct.mZ C.aG.toNat S l b w=true):oE C S l a b w=0:=by
 unfold oE;rw[aKi (by unfold sA;simp;omega),aab,aab,aKi (by rw[d];simp)]
theorem RY.Jd (hC:C.Ok) (A:dU C N M) (h:RY C M V) {i:Nat} {a:Acc} {o:Int} (t:(i:Int)<C.aD) (D:M.bZ.calls i=false) (B:aT.uR (M.bC i)=some a)
  (E:0<=a.word/\a.word<C.lines*2) (hc:Ct.mZ C.aG.toNat (M.cG i).S (a.word/2) o a.write=true):
  ∃V',RY C (M.Jd C i (a.word/2) (a.word % 2) o a).1 V':=by
 have b:i<4:=by have:=hC.1;omega
 obtain⟨k,u⟩:=Int.eq_ofNat_of_zero_le (show 0<=a.word/2 by omega)
 have j:k<C.lines:=by omega
 have f:a.word % 2=0\/a.word % 2=1:=by omega
 have d:=wi hc
 rw[u] at d hc
 have w:=h.Lj.value b j d
 have y:a.word.toNat/2=k:=by omega
 have em:a.word.toNat % 2=0↔a.word % 2=0:=by omega
 have g:nG C M.home (aX M.cG i (if a.read then oK C (M.cG i) k (a.word % 2) o else M.cG i)) V (qT C M.iC):=by
  split;exact h.Lj.reads b t;rw[wN];exact h.Lj
 unfold cU.Jd
 rw[u]
 dsimp only
 refine⟨if a.write then J9 V a.word.toNat a.value else V,?_⟩
 refine h.Hz hC A (M1:=M.uB i _) D rfl rfl rfl rfl rfl ?_ (Qc B (.inl rfl))
 show nG C M.home (aX M.cG i _) _ _
 cases hwr:a.write with
 |false=>simp only[Bool.false_eq_true,if_false];exact g
 |true=>
  simp only[if_true]
  rw[hwr] at hc
  have p:=Jy hc
  have q:oE C (aX M.cG i (if a.read then oK C (M.cG i) k (a.word % 2) o else M.cG i) i).S k (a.word % 2) o true=0:=by
   rw[Ab.dQ];refine Sd (by omega) f ?_;split;unfold oK;rw[aKj (Sd (by omega) f p)];dsimp only;unfold Ct.mZ at hc ⊢;rw[Em (h.Lj.uD i b).aG d];exact hc;exact hc
  have:=g.writes (v:=a.value) b t q
  rw[Ab.dQ,wW] at this
  have F:aX V k (rz (V k) (a.word % 2) a.value)=J9 V a.word.toNat a.value:=by
   unfold J9 rz;rw[y];congr 1;by_cases e:a.word % 2=0;rw[aKj e,aKj (em.2 e)];grind
  grind
theorem RY.access (hC:C.Ok) (k:dU C N M) (h:RY C M V) {i:Nat} {a:Acc} (t:(i:Int)<C.aD) (A:M.bZ.calls i=false) (p:aT.uR (M.bC i)=some a):
  ∃V',RY C (M.access C i a).1 V':=by
 have u:i<4:=by have:=hC.1;omega
 have J:C.lines=(C.aQ*2).toNat:=by unfold bN.lines;omega
 unfold cU.access
 by_cases d:0<=a.word/\a.word<C.lines*2
 rotate_left
 .rw[aKj d];exact⟨V,h.Hz hC k A rfl rfl rfl rfl rfl h.Lj (Qc p (.inr rfl))⟩
 rw[aKi (fun e=>e d)]
 dsimp only
 by_cases f:((M.cA i).ask C (M.bC i).world (a.word/2/2)).2≠0
 .grind
 rw[aKi f]
 have f:((M.cA i).ask C (M.bC i).world (a.word/2/2)).2=0:=Decidable.not_not.1 f
 unfold jP.ask at f ⊢
 split at f
 rotate_left
 .cases f
 rename_i q
 rw[aKj q]
 cases hkn:mI (M.cA i).known (a.word/2/2) with
 |none=>
  dsimp only
  rw[aKj rfl]
  unfold cU.walk
  dsimp only
  by_cases g:((M.cA i).begin C (a.word/2/2)).2.2≠0
  .grind
  rw[aKi g]
  have g:((M.cA i).begin C (a.word/2/2)).2.2=0:=Decidable.not_not.1 g
  split
  .exact⟨V,h⟩
  .rename_i j;have B:=(wO (Decidable.not_not.1 j)).1;refine⟨V,?_,?_,h.swp,h.ask⟩
   .exact(h.Lj.more (N':=[_]) (fun x I=>by rw[List.mem_singleton.1 I];show ¬PK 6;decide)).perm B.symm
   .exact(h.nC.walk t g).perm B.symm
 |some o=>
  dsimp only
  have y:M.known i (a.word/2/2)=o:=by unfold cU.known;rw[hkn];rfl
  by_cases b:Ch (M.bC i).world o=true
  rotate_left
  .have e:(if Ch (M.bC i).world o=true then((1:Int),(0:Int)) else(2,0))=(2,0):=aKi b;simp only[e];rw[aKi (by decide),aKj trivial];have b:Ch (M.bC i).world o=false:=by simpa using b
   exact⟨V,h.Hz hC k A rfl rfl rfl rfl rfl h.Lj (Qc p (.inr rfl))⟩
  .have e:(if Ch (M.bC i).world o=true then((1:Int),(0:Int)) else(2,0))=(1,0):=aKj b;simp only[e];rw[aKi (by decide),aKi (by decide),y];split
   .unfold cU.want;dsimp only;obtain⟨O,out,e,E,D,_⟩:=h.Lj.aGv hC u t (l:=a.word/2) (w:=(M.bC i).world) (wr:=a.write);have v:=wk (C:=C) (core:=(i:Int)) (s:=M.cG i) (l:=a.word/2) (w:=(M.bC i).world) (wr:=a.write);rw[E] at v ⊢;dsimp only at v ⊢;split
    .exact⟨V,h⟩
    .split
     .exact⟨V,h⟩
     .rename_i j;exact⟨V,h.aJ9 (wO (Decidable.not_not.1 j)).1 v rfl rfl rfl rfl rfl D⟩
   .rename_i F;refine h.Jd hC k t A p d ?_;grind
end
section
variable {C:bN} {N:Nat} {M M':cU} {V V':Nat->Ln}
theorem aEi (a:dU C N M) {g:Nat} (h:M.bZ.phase g=0):M.bZ.runs g=none:=by
 unfold Mon.phase Mon.run at h;rw[aac,Int.toNat_natCast] at h;cases hr:M.bZ.runs g with
 |none=>rfl
 |some r=>rw[hr] at h;have:=(a.bZ.run g r hr).2.2.1;dsimp only at h;omega
theorem RY.call (hC:C.Ok) (u:dU C N M) (h:RY C M V) {i:Nat} {a:Mc.Ask} (W:(i:Int)<C.aD) (I:M.bZ.calls i=false) (v:aT.Bx (M.bC i) i=some a):RY C (M.call C i a).1 V:=by
 have w:a.core=i:=by obtain⟨x,_,_,rfl⟩:=uk v;rfl
 have F:=u.bZ.len;have R:=hC.2.1;unfold cU.call;dsimp only;have fail:∀e:Int,RY C (M.bQ i 0 e).1 V:=fun e=>h.Hz hC u I rfl rfl rfl rfl rfl h.Lj (Z9 v);have E:¬¬(0<=a.core/\a.core<C.aD):=by omega
 by_cases o:M.bZ.has a.bI;rotate_left;have b:M.bZ.call C.aD a=(M.bZ,false,10):=by unfold Mon.call;rw[aKi E,aKj o]
 rw[b];dsimp only;rw[aKj (by decide)];exact fail 10;have q:¬¬M.bZ.has a.bI:=fun e=>e o;have p:0<=a.bI/\a.bI<M.bZ.cE.length:=o;obtain⟨g,k⟩:=Int.eq_ofNat_of_zero_le p.1;by_cases J:M.bZ.phase a.bI≠0;have b:M.bZ.call C.aD a=(M.bZ,false,17):=by unfold Mon.call;rw[aKi E,aKi q,aKj J]
 rw[b];dsimp only;rw[aKj (by decide)];exact fail 17;have P:¬M.bZ.calls a.core=true:=by rw[w,I];simp
 have t:M.bZ.phase g=0:=by grind
 have D:=aEi u t;by_cases j:(gX a.call a.world (M.bZ.kJ a.bI).owner a.to).2.2≠0;have b:M.bZ.call C.aD a=(M.bZ,false,(gX a.call a.world (M.bZ.kJ a.bI).owner a.to).2.2):=by unfold Mon.call;grind
 rw[b];dsimp only;rw[aKj j];exact fail _;have b:M.bZ.call C.aD a=((M.bZ.oY a.bI.toNat ⟨(M.bZ.kJ a.bI).owner,true⟩).cQ a.bI.toNat (some (a.run C.aD (gX a.call a.world (M.bZ.kJ a.bI).owner a.to))),true,0):=by
  unfold Mon.call;grind
 rw[b];dsimp only;rw[aKi (by simp)];have j:(gX a.call a.world (M.bZ.kJ a.bI).owner a.to).2.2=0:=Decidable.not_not.1 j;split;exact h;rename_i O;have B:=(wO (Decidable.not_not.1 O)).1;have A:(g:Int)<C.aQ:=by omega
 rw[k] at B ⊢;rw[Int.toNat_natCast];constructor;exact(h.Lj.more (fun x T=>by rw[(Bc T).1];decide)).perm B.symm;exact(h.nC.calls hC (by omega) A D).perm B.symm;intro d r b f;have b:aX M.bZ.runs g _ d=some r:=b;unfold aX at b;by_cases e:d=g;rw[aKj e] at b;cases b;exact absurd (show(1:Int)=2 from f) (by decide);rw[aKi e] at b;exact h.swp d r b f;intro d r b;have b:aX M.bZ.runs g _ d=some r:=b;unfold aX at b;show aT.Bx (M.bC r.core.toNat) r.core.toNat=_/\gX r.call r.world ((M.bZ.oY g ⟨(M.bZ.kJ g).owner,true⟩).kJ d).owner r.to=_;rw[Ih (by omega) (by omega)];by_cases e:d=g;rw[aKj e] at b;cases b;rw[aac,e];have y:(a.run C.aD (gX a.call a.world (M.bZ.kJ g).owner a.to)).core.toNat=i:=by show a.core.toNat=i;omega
 rw[y];refine⟨?_,?_⟩;rw[v];obtain⟨U,c2,c3,c4,c5⟩:=a;dsimp only at k;rw[k];rfl;rw[<-k];exact Prod.ext rfl (Prod.ext rfl j);rw[aKi e] at b;rw[aab];exact h.ask d r b
theorem RY.step (hC:C.Ok) (g:dU C N M) (h:RY C M V) {a:Int}:∃V',RY C (M.step C a).1 V':=by
 unfold cU.step;by_cases f:0<=a/\a<C.aD;rotate_left;grind;rw[aKi (fun e=>e f)];dsimp only;obtain⟨i,j⟩:=Int.eq_ofNat_of_zero_le f.1;subst j;rw[Int.toNat_natCast];split;exact⟨V,h⟩;split;exact⟨V,h⟩;rename_i d;have d:M.bZ.calls (i:Int)=false:=by unfold cU.waits at d;simpa using d
 split;rename_i r _;exact⟨V,h.turns hC g d (s:=r.1) rfl rfl rfl rfl rfl h.Lj⟩;split;rename_i a b;exact⟨V,h.call hC g f.2 d b⟩;split;rename_i a b;exact h.access hC g f.2 d b;exact⟨V,h⟩
theorem sQ {g:Nat} (a:(g:Int)<C.aQ):g*2<C.lines/\g*2+1<C.lines:=by unfold bN.lines;omega
theorem RY.Xc (B:dU C N M) (h:RY C M V) {a:Int}:RY C (M.begin C a).1 V:=by
 unfold cU.begin;dsimp only;obtain⟨q,out,e,u,D,_,hH⟩:=h.Lj.Xc (l:=a) (j:=M.E4 C a);have f:=Lo (C:=C) (H:=M.home) (l:=a) (j:=M.E4 C a);have d:(iB C M.home a (M.E4 C a)).1=q:=by rw[u]
 rw[u] at f ⊢;dsimp only at f ⊢;split;exact h;split;exact h;rename_i A;have v:=(wO (Decidable.not_not.1 A)).1;refine⟨D.perm v.symm,(h.nC.more f).perm v.symm,fun g r p o=>?_,h.ask⟩;have hold:=h.swp g r p o;have b:=(B.bZ.run g r p).1;have I:=(h.nC.lock g b).2 (by rw[p];rfl);have J:∀k:Nat,k<C.lines->k/2=g->Ll (M.home k).1->Ll (q k).1:=fun k i F y=>by
  by_cases e:(k:Int)=a;subst e;have E:∀x,(M.E4 C k x).2=false:=fun x=>by
   unfold cU.E4;grind
  rw[<-d];unfold iB;rw[aKj (by unfold bN.has;omega),Int.toNat_natCast];show Ll (aX M.home k _ k).1;rw[Ab.dQ];unfold mT.begin;by_cases t:(M.home k).1.busy=true;grind;rw[aKi t];cases hwt:(M.home k).1.waits with
  |nil=>exact y
  |cons n w=>exact y.begun (by simpa using t) hwt (h.Lj.line k i) E
  grind
 have O:=sQ b;grind
theorem lu {n:aH} (h:Nt.nC C n=0) (b:n.kind=7\/n.kind=13):0<=n.no/\n.no<C.aQ:=by
 unfold Nt.nC at h;split at h;split at h;split at h;rename_i f;have a:=f.1;have:Cs n.kind.toNat=[1,13]:=by rcases b with e|e<;>rw[e]<;>rfl
 rw[this] at a;unfold mE at a;split at a;unfold mE at a;split at a;rename_i d;exact d;cases a;cases a;cases h;cases h;cases h
theorem RY.fG (hC:C.Ok) (v:dU C N M) {n:aH} {L:List aH} (hp:(qT C M.iC).Perm (n::L)) (hn:Nt.nC C n=0) (h:RY C M V) (o:(M.fG C n).2.2=0):
  ∀F:fM,(qT C F).Perm ((M.fG C n).2.1++L)->RY C ((M.fG C n).1.dS F) V:=by
 intro F hF
 have p:=h.Lj.perm hp
 have f:=h.nC.perm hp
 obtain⟨η,Y⟩:=vR hn
 obtain⟨i,U⟩:=Int.eq_ofNat_of_zero_le Y.1
 have E:n.core.toNat=i:=by omega
 have t:(i:Int)<C.aD:=by omega
 have ε:=v.bZ.len
 have ζ:=hC.2.1
 unfold cU.fG at o hF ⊢
 by_cases k1:n.kind=1\/n.kind=2\/n.kind=3\/n.kind=4\/n.kind=5
 .rw[aKj k1] at o hF ⊢;dsimp only at o hF ⊢;obtain⟨H',out,T,W,_,hH⟩:=p.homes hC (by omega);have y:=N9 (C:=C) (H:=M.home) (n:=n);rw[T] at hF y;dsimp only at hF y;have D:(fA C M.home n).1=H':=by rw[T]
  rw[D]
  refine⟨W.perm hF.symm,((f.skip (by unfold KK;omega)).more y).perm hF.symm,fun g r O q=>?_,h.ask⟩
  have hold:=h.swp g r O q
  have hl:=sQ (v.bZ.run g r O).1
  have κ:∀k:Nat,k<C.lines->Ll (M.home k).1->Ll (H' k).1:=fun k β hs=>by
   by_cases e:(k:Int)=n.line;rw[<-D];have J:=p.nb n List.mem_cons_self (by unfold PK;omega);unfold fA;rw[aKi (by unfold Hm.fG;omega),aKj ⟨J.1,by unfold bN.has;exact J.2⟩];show Ll (aX M.home n.line.toNat _ k).1;rw[show n.line.toNat=k by omega,Ab.dQ,<-e];have v:=p.line k β;rw[Jk e.symm (by unfold PK;omega)] at v;exact hs.take v (by omega);grind
  grind
 rw[aKi k1] at o hF ⊢
 by_cases k2:n.kind=8\/n.kind=9\/n.kind=10\/n.kind=11
 .rw[aKj k2] at o hF ⊢;dsimp only at o hF ⊢;obtain⟨s',out,T,W,_⟩:=p.cache hC (by omega);have y:=Yw (C:=C) (core:=n.core) (s:=M.cG n.core.toNat) (n:=n);rw[T] at hF y ⊢;dsimp only at hF y ⊢;exact⟨W.perm hF.symm,((f.skip (by unfold KK;omega)).more y).perm hF.symm,h.swp,h.ask⟩
 rw[aKi k2] at o hF ⊢
 have δ:¬PK n.kind:=by unfold PK;omega
 have b:=p.skip δ
 by_cases k6:n.kind=6
 .rw[aKj k6] at o hF ⊢;dsimp only at o hF ⊢;exact⟨(b.more (N':=[_]) (fun x A=>by rw[List.mem_singleton.1 A];show ¬PK 12;decide)).perm hF.symm,(f.asked (by omega) (by omega) v.bZ.own t U k6).2.perm hF.symm,h.swp,h.ask⟩
 rw[aKi k6] at o hF ⊢
 by_cases B:n.kind=12
 .rw[aKj B] at o hF ⊢;dsimp only at o hF ⊢;rw[E] at hF ⊢;refine⟨(b.more (fun x A=>?_)).perm hF.symm,(f.walked t U B (by omega)).2.perm hF.symm,h.swp,h.ask⟩;split at A
  .cases A
  .rw[List.mem_singleton.1 A];show ¬PK 6;decide
 rw[aKi B] at o hF ⊢
 by_cases u:n.kind=13
 .rw[aKj u] at o hF ⊢;dsimp only at o hF ⊢;rw[E];exact⟨(b.more (N':=[_]) (fun x A=>by rw[List.mem_singleton.1 A];show ¬PK 7;decide)).perm hF.symm,(f.dropped t U u (lu hn (.inr u))).2.perm hF.symm,h.swp,h.ask⟩
 rw[aKi u] at o hF ⊢
 by_cases k7:n.kind=7
 rotate_left
 .grind
 rw[aKj k7] at o hF ⊢
 dsimp only at o hF ⊢
 have γ:=lu hn (.inl k7)
 obtain⟨g,hg⟩:=Int.eq_ofNat_of_zero_le γ.1
 obtain⟨r,O,θ,ι,Z,I⟩:=f.heard (g:=g) hC v.bZ t U k7 hg
 rw[Z]
 rw[List.nil_append] at hF
 dsimp only
 have α:=(v.bZ.run g r O).1
 have hl:=sQ α
 have w:∀j d,(M.bZ.cQ g (some (r.heard i).hZ)).runs j=some d->aT.Bx (M.bC d.core.toNat) d.core.toNat=some ⟨d.core,d.world,d.call,j,d.to⟩/\gX d.call d.world (M.bZ.kJ j).owner d.to=(d.then',d.lC,0):=fun j d a=>by
  have a:aX M.bZ.runs g _ j=some d:=a;unfold aX at a;by_cases e:j=g;subst e;rw[aKj rfl] at a;cases a;exact h.ask j r O;rw[aKi e] at a;exact h.ask j d a
 by_cases ha:(r.heard i).none=true
 .rw[ha,aKj rfl];refine⟨?_,I.perm hF.symm,fun j d a q=>?_,w⟩
  .exact(b.Au.Au).perm hF.symm
  .have a:aX M.bZ.runs g _ j=some d:=a;unfold aX at a;have P:∀k:Nat,xV C M.home n.no k=if k=g*2\/k=g*2+1 then mT.mh (M.home k) k else M.home k:=fun k=>by
    have e1:n.no*2=((g*2:Nat):Int):=by omega
    have R:n.no*2+1=((g*2+1:Nat):Int):=by omega
    unfold xV jF;rw[R,e1,aKj (by unfold bN.has;omega),aKj (by unfold bN.has;omega),Int.toNat_natCast,Int.toNat_natCast];dsimp only;by_cases e:k=g*2;subst e;rw[Ab.cX (by omega),Ab.dQ,aKj (.inl rfl)];by_cases R:k=g*2+1;subst R;rw[Ab.dQ,aKj (.inr rfl),Ab.cX (by omega)];rw[Ab.cX R,Ab.cX e,aab]
   show Ll (xV C M.home n.no (j*2)).1/\Ll (xV C M.home n.no (j*2+1)).1
   rw[P,P]
   by_cases e:j=g
   .subst e;rw[aKj (.inl rfl),aKj (.inr rfl)];exact⟨.inl Ey,.inl Ey⟩
   .rw[aKi e] at a;rw[aab,aab];exact h.swp j d a q
 .rw[aKi ha];refine⟨b.perm hF.symm,I.perm hF.symm,fun j d a q=>?_,w⟩;have a:aX M.bZ.runs g _ j=some d:=a;unfold aX at a;by_cases e:j=g
  .rw[aKj e] at a;cases a;have:(if(r.heard i).none=true then(2:Int) else r.phase)=2:=q;grind
  .rw[aKi e] at a;exact h.swp j d a q
theorem RY.ua (hC:C.Ok) (e:dU C N M) (h:RY C M V) {a b c:Int}:RY C (M.sK C a b c).1 V:=by
 unfold cU.sK;dsimp only;split;exact h;rename_i d;have d:(M.iC.take C a b c).2.2=0:=Decidable.not_not.1 d;split;exact h;rename_i f;split;exact h;rename_i g;have i:=(wO (Decidable.not_not.1 g)).1;exact h.fG hC e (bp d) (Ku e.iC d).1.nC (Decidable.not_not.1 f) _ i
end
section
variable {C:bN} {N:Nat} {M M':cU} {V V':Nat->Ln}
theorem Bk {H:lT} {k:Nat} (f:k<C.lines) (h:¬fC C H k>0):¬Jm (H k).1:=by
 unfold fC at h;rw[aKj (by unfold bN.has;omega),Int.toNat_natCast] at h;unfold Row.Au at h;rintro (⟨d,e⟩|⟨x,b,a⟩);grind;have:0<((H k).1.waits.filter fun n=>decide (n.kind=0)).length:=List.length_pos_iff.2 (List.ne_nil_of_mem (List.mem_filter.2 ⟨b,decide_eq_true a⟩));split at h<;>omega
theorem _root_.Go.Pc.nG.lC {H:lT} {X:Nat->iH} {L:List aH} {g:Nat} (h:nG C H X V L) (_q:(g:Int)<C.aQ) (j:Pc.Clean (H (g*2)).1) (k:Pc.Clean (H (g*2+1)).1):nG C (jW H g) X (At.lC V g) L:=by
 refine⟨fun l p=>?_,h.uD,h.room,h.new,h.nb⟩;have b:=h.line l p;have a:Pc.Clean (H l).1->Inv l (H l).1 (0,0) (0,0) (cls C X l) (Dn l L):=fun o=>by
  obtain⟨i,c2⟩:=b.clean o;exact b.u5 i fun x f=>⟨(c2 x f).1,fun e=>absurd e (c2 x f).2.1⟩
 unfold jW At.lC;by_cases e:l=g*2;subst e;rw[aKj (.inl (by omega)),Ab.cX (by omega),Ab.dQ];exact a j;by_cases d:l=g*2+1;subst d;rw[aKj (.inr (by omega)),Ab.dQ];exact a k;rw[aab,Ab.cX d,Ab.cX e];exact b
theorem Nn (h:RY C M V) {a:Int} (f:(M.finish C a).2=0):
  ∃g r,a=((g:Nat):Int)/\(g:Int)<C.aQ/\M.bZ.runs g=some r/\r.phase=2/\(Pc.Clean (M.home (g*2)).1/\Pc.Clean (M.home (g*2+1)).1)/\
   M.finish C a=cU.bQ (if r.lC then(M.nE ((M.bZ.oY r.bI.toNat ⟨r.then',false⟩).cQ g none)).pV (jW M.home r.bI) else M.nE ((M.bZ.oY r.bI.toNat ⟨r.then',false⟩).cQ g none)) r.core.toNat 0 0:=by
 unfold cU.finish at f ⊢
 by_cases j:0<=a/\a<C.aQ
 rotate_left
 .rw[aKj j] at f;cases f
 rw[aKi (fun e=>e j)] at f ⊢
 obtain⟨g,q⟩:=Int.eq_ofNat_of_zero_le j.1
 subst q
 by_cases d:M.hZ C g=false
 .grind
 rw[aKi d] at f ⊢
 have d:M.hZ C g=true:=by simpa using d
 unfold cU.hZ at d
 simp only[Bool.and_eq_true,decide_eq_true_eq,Bool.not_eq_true',decide_eq_false_iff_not] at d
 obtain⟨⟨i,v⟩,k⟩:=d
 have b:M.bZ.run g=M.bZ.runs g:=by unfold Mon.run;rw[aac,Int.toNat_natCast]
 cases hr:M.bZ.runs g with
 |none=>unfold Mon.phase at i;rw[b,hr] at i;cases i
 |some r=>
  have u:r.phase=2:=by unfold Mon.phase at i;grind
  have p:=sQ j.2
  have hold:=h.swp g r hr u
  have w:Pc.Clean (M.home (g*2)).1:=by
   rcases hold.1 with e|e;exact absurd e (Bk p.1 (by grind));exact e
  have y:Pc.Clean (M.home (g*2+1)).1:=by
   rcases hold.2 with e|e;exact absurd e (Bk p.2 (by rw[show((g*2+1:Nat):Int)=(g:Int)*2+1 by omega];exact k));exact e
  by_cases o:M.bZ.has g
  .have t:M.bZ.over g=((M.bZ.oY r.bI.toNat ⟨r.then',false⟩).cQ g none,some r,0):=by
    unfold Mon.over;rw[aKi (fun e=>e o),b,hr];dsimp only;grind
   grind
  .exfalso;have t:M.bZ.over g=(M.bZ,none,10):=by unfold Mon.over;rw[aKj o]
   grind
def aGl (V:Nat->Ln) (b:Bool) (g:Nat):Nat->Ln:=if b then At.lC V g else V
theorem RY.finish (hC:C.Ok) (p:dU C N M) (E:Qb M) (h:RY C M V) {g:Nat} {r:Mc.jG} (j:(g:Int)<C.aQ) (o:M.bZ.runs g=some r) (J:r.phase=2) (f:Pc.Clean (M.home (g*2)).1/\Pc.Clean (M.home (g*2+1)).1):
  RY C (cU.bQ (if r.lC then(M.nE ((M.bZ.oY r.bI.toNat ⟨r.then',false⟩).cQ g none)).pV (jW M.home r.bI) else M.nE ((M.bZ.oY r.bI.toNat ⟨r.then',false⟩).cQ g none)) r.core.toNat 0 0).1 (Mc.aGl V r.lC g)/\
  (cU.bQ (if r.lC then(M.nE ((M.bZ.oY r.bI.toNat ⟨r.then',false⟩).cQ g none)).pV (jW M.home r.bI) else M.nE ((M.bZ.oY r.bI.toNat ⟨r.then',false⟩).cQ g none)) r.core.toNat 0 0).2=0:=by
 obtain⟨v,T⟩:=h.ask g r o
 have w:=p.bZ.len
 have k:=p.bZ.run g r o
 obtain⟨i,R⟩:=Int.eq_ofNat_of_zero_le k.2.2.2.1.1
 have q:r.core.toNat=i:=by omega
 have I:(i:Int)<C.aD:=by omega
 rw[q] at v
 have F:r.bI=g:=k.2.1
 have A:(aT.bQ (M.bC i) i 0 0).2.2=0:=Z9 v
 generalize D:(if r.lC then(M.nE ((M.bZ.oY r.bI.toNat ⟨r.then',false⟩).cQ g none)).pV (jW M.home r.bI) else M.nE ((M.bZ.oY r.bI.toNat ⟨r.then',false⟩).cQ g none))=M1
 have m1:M1.bC=M.bC:=by grind
 have m2:M1.log=M.log:=by grind
 have m3:M1.bZ=(M.bZ.oY g ⟨r.then',false⟩).cQ g none:=by grind
 have m4:M1.home=if r.lC then jW M.home g else M.home:=by grind
 have m5:M1.cA=M.cA:=by grind
 have m6:M1.iC=M.iC:=by grind
 have m7:M1.cG=M.cG:=by grind
 have y:M1.bQ r.core.toNat 0 0=((M1.Mu i (aT.bQ (M.bC i) i 0 0).1).Mv (aT.bQ (M.bC i) i 0 0).2.1,0):=by
  unfold cU.bQ;dsimp only;have B:(aT.bQ (M1.bC i) i 0 0).2.2=0:=by rw[m1];exact A
  grind
 rw[y]
 refine⟨?_,rfl⟩
 constructor
 case Lj=>
  show nG C M1.home M1.cG _ (qT C M1.iC)
  rw[m4,m6,m7]
  unfold Mc.aGl
  split
  .exact h.Lj.lC j f.1 f.2
  .exact h.Lj
 case nC=>
  show iL C M1.cA M1.bZ (qT C M1.iC)
  rw[m3,m5,m6]
  exact(h.nC.over hC (by omega) j o J).1
 case swp=>
  show∀b d,M1.bZ.runs b=some d->d.phase=2->Ll (M1.home (b*2)).1/\Ll (M1.home (b*2+1)).1
  rw[m3,m4]
  intro b d a u
  have a:aX M.bZ.runs g none b=some d:=a
  unfold aX at a
  by_cases e:b=g
  .grind
  .rw[aKi e] at a;have:=h.swp b d a u;split
   .unfold jW;grind
   .exact this
 case ask=>
  intro b d a
  have a:M1.bZ.runs b=some d:=a
  rw[m3] at a
  have a:aX M.bZ.runs g none b=some d:=a
  unfold aX at a
  by_cases e:b=g
  .grind
  rw[aKi e] at a
  have t:d.core.toNat≠i:=fun O=>by
   have P:=(p.bZ.run b d a).2.2.2.1;refine e (E.one b g r.core ?_ ?_);unfold rc;grind;unfold rc;rw[o];rfl
  show aT.Bx (aX M1.bC i _ d.core.toNat) _=_/\gX _ _ (M1.bZ.kJ b).owner _=_
  rw[m1,m3,Ab.cX t]
  have:((M.bZ.oY g ⟨r.then',false⟩).cQ g none).kJ b=M.bZ.kJ b:=by
   show(M.bZ.oY g _).kJ b=_;rw[Ih (by omega) (by omega),aab]
  rw[this]
  exact h.ask b d a
theorem RY.po (hC:C.Ok) (t:dU C N M) (u:Qb M) (h:RY C M V) {a:Int}:∃V',RY C (M.finish C a).1 V':=by
 by_cases b:(M.finish C a).2=0;obtain⟨g,r,rfl,d,i,f,q,A⟩:=Nn h b;rw[A];exact⟨_,(h.finish hC t u d i f q).1⟩;refine⟨V,?_⟩;suffices o:(M.finish C a).1=M by rw[o];exact h
 unfold cU.finish at b ⊢;by_cases k:¬(0<=a/\a<C.aQ);rw[aKj k];rw[aKi k] at b ⊢;by_cases p:M.hZ C a=false;rw[aKj p];rw[aKi p] at b ⊢;dsimp only at b ⊢;cases ho:(M.bZ.over a).2.1 with
 |none=>rfl
 |some r=>
  rw[ho] at b;exfalso;obtain⟨g,B⟩:=Int.eq_ofNat_of_zero_le (Decidable.not_not.1 k).1;subst B;have D:M.bZ.has g:=by
   apply Classical.byContradiction;intro e;unfold Mon.over at ho;rw[aKj e] at ho;cases ho
  have j:M.bZ.run g=M.bZ.runs g:=by unfold Mon.run;rw[aac,Int.toNat_natCast]
  unfold Mon.over at ho b;rw[aKi (fun e=>e D),j] at ho b;cases i:M.bZ.runs g with
  |none=>grind
  |some E=>
   rw[i] at ho b;dsimp only at ho b;split at ho;cases ho;rename_i f;rw[aKi f] at b;cases ho;have d:=(Decidable.not_not.1 k).2;have o:M.hZ C g=true:=by simpa using p
   unfold cU.hZ at o;simp only[Bool.and_eq_true,decide_eq_true_eq,Bool.not_eq_true',decide_eq_false_iff_not] at o;have f:r.phase=2:=Decidable.not_not.1 f;have v:=sQ d;have hold:=h.swp g r i f;have w:Pc.Clean (M.home (g*2)).1:=by
    rcases hold.1 with e|e;exact absurd e (Bk v.1 (by grind));exact e
   have y:Pc.Clean (M.home (g*2+1)).1:=by
    rcases hold.2 with e|e;exact absurd e (Bk v.2 (by grind));exact e
   have:=(h.finish hC t u d i f ⟨w,y⟩).2;grind
theorem RY.Dp (hC:C.Ok) (a:dU C N M) (b:Qb M) (h:RY C M V) {d:Do}:∃V',RY C (M.Dp C d).1 V':=by
 unfold cU.Dp;split;exact h.step hC a;split;exact⟨V,h.ua hC a⟩;split;exact⟨V,h.Xc a⟩;split;exact h.po hC a b;exact⟨V,h⟩
structure RZ (C:bN) (S:Nat->aT) (N:Nat) (M:cU):Prop where
 all:All C S N M
 rx:∃V,RY C M V
theorem RZ.Dp {S:Nat->aT} (hC:C.Ok) (h:RZ C S N M) {d:Do}:RZ C S (N+2) (M.Dp C d).1:=by
 obtain⟨V,a⟩:=h.rx;exact⟨h.all.Dp hC,a.Dp hC h.all.inv h.all.wait⟩
end
section
variable {C:bN} {N:Nat} {M:cU} {V:Nat->Ln}
theorem Om {n:aH}:∀{fs:List Int} {a:aH},(mE C n fs a).1=true->(0<=a.line/\a.line<C.lines)->0<=(mE C n fs a).2.line/\(mE C n fs a).2.line<C.lines
 |[],a,_,h=>h
 |f::fs,a,d,h=>by
  unfold mE at d ⊢;split
  .rename_i g;rw[aKj g] at d;refine Om d ?_;unfold aA3;by_cases e:f=1;rw[aKj e];exact h
   .rw[aKi e];by_cases b:f=2;rw[aKj b];subst b;exact g
    .rw[aKi b];repeat' split
     all_goals exact h
  exact h
theorem Uq {n:aH} (h:Nt.nC C n=0):0<=n.line/\n.line<C.lines:=by
 unfold Nt.nC at h;split at h;split at h;rename_i hC;have d:=bN.eE hC;have e:=hC.2.1;split at h;rename_i b;have:=Om (a:=B0 n.kind) b.1 (show(0:Int)<=0/\(0:Int)<C.lines by omega);rw[b.2] at this;exact this;cases h;cases h;cases h
theorem get_mem {l:List Th} {t:Th} (h:t∈l):(Go.Ct.get t.1 l).isSome=true:=by
 unfold Go.Ct.get;rw[Option.isSome_map,List.find?_isSome];exact⟨t,h,by simp⟩
theorem Zh {n ways:Nat} {s:iH} (e:Go.Ct.Good n ways s) {i:Nat} {t:Th} (b:t∈s.S i):(bB n s.S t.1).2=0:=by
 obtain⟨f,d⟩:=e.pl i t b;have a:=get_mem b;rw[<-d] at a;unfold bB;rw[aab];cases hh:Go.Ct.get t.1 (s.S (setOf n t.1)) with
 |none=>rw[hh] at a;cases a
 |some x=>rfl
structure aIa (C:bN) (M:cU):Prop where
 qV:∀y∈mS C.aG.toNat M.cG C.aD.toNat,(y.1:Int)<C.aD/\0<=y.2.1/\y.2.1<C.lines
 hJ:∀c w,∀n∈M.iC c w,(0<=n.core/\n.core<C.aD)/\0<=n.line/\n.line<C.lines
theorem nf {X:Nat->iH} {k:Nat} {y:Nat×Th} {n:Nat} (a:y∈mS n X k):y.1<k/\∃i,i<n/\y.2∈(X y.1).S i:=by
 unfold mS tag at a;simp only[List.mem_flatMap,List.mem_range,List.mem_map,sb] at a;obtain⟨i,b,t,d,rfl⟩:=a;exact⟨b,d⟩
theorem Ys (hC:C.Ok) (a:dU C N M) (h:RY C M V):aIa C M where
 qV:=fun y f=>by
  obtain⟨g,i,_,b⟩:=nf f;have j:=hC.1;have e:=Zh (a.Mt y.1 (by omega)) b;exact⟨by omega,((a.Mt y.1 (by omega)).pl i y.2 b).1,(h.Lj.room y.1 (by omega)).bd _ e⟩
 hJ:=fun c w n d=>⟨(vR (a.iC.note c w n d).1.nC).2,Uq (a.iC.note c w n d).1.nC⟩
structure aCk (C:bN) (M:cU) (l:Nat):Prop where
 qV:∀y∈mS C.aG.toNat M.cG C.aD.toNat,y.2.1≠l
 gr:∀c w,∀n∈M.iC c w,n.kind=8->n.line≠l
theorem Zw (hC:C.Ok) (k:dU C N M) (h:RY C M V) {l:Nat} (A:l<C.lines) (hc:Pc.Clean (M.home l).1):aCk C M l:=by
 obtain⟨t,u⟩:=(h.Lj.line l A).clean hc;constructor;intro y B e;obtain⟨a,i,_,g⟩:=nf B;have d:=hC.1;have o:=k.Mt y.1 (by omega);have b:=Zh o g;rw[e] at b;have j:=t y.1 (by omega);have D:=qX o.aG b;unfold HH tV at j;have v:(cls C M.cG l y.1).st=(bB C.aG.toNat (M.cG y.1).S l).1.st:=by
  show(cK C.aG.toNat (M.cG y.1) l).st=_;rw[E0,aKj b]
 rw[v,aac] at j;omega;intro c w n q p e;have a:=k.iC.note c w n q;have g:=(vR a.1.nC).2;have d:=hC.1;have f:n∈qT C M.iC:=by
  unfold qT;refine List.mem_flatMap.2 ⟨c,List.mem_range.2 (by omega),List.mem_flatMap.2 ⟨w,List.mem_range.2 ?_,q⟩⟩;have:=a.2.2;unfold fR at this;rw[p] at this;have E:(Kd (8:Int).toNat).toNat<4:=by decide
  omega
 exact(u n (zt.2 ⟨f,e,.inr (by omega)⟩)).1 p
structure aBd (C:bN) (M M':cU) (g i:Nat) (y:Ins) (x:Ev):Prop where
 gr:(g:Int)<C.aQ
 ic:(i:Int)<C.aD
 nx:aT.next? (M.bC i)=some y
 log:M'.log=M.log++[x]
 core:x.core=i
 at':x.at'=(M.bC i).at'
 op:x.op=8
 word:x.word=g
 code:x.code=0
 kJ:M'.bZ.cE[g]?=some ⟨if y.a=4 then 4 else if y.a=2 then 0 else x.value,false⟩
 l0:aCk C M' (g*2)
 l1:aCk C M' (g*2+1)
 kn:∀y∈lQ M'.cA C.aD.toNat,y.2.1≠g
 z:y.a≠4->(M'.home (g*2)).2=(0,0)/\(M'.home (g*2+1)).2=(0,0)
theorem aCs (hC:C.Ok) (v:dU C N M) (hW:Qb M) (h:RY C M V) {a:Int} (hf:(M.finish C a).2=0):
  ∃(g i:Nat) (y:Ins) (x:Ev),a=g/\aBd C M (M.finish C a).1 g i y x:=by
 obtain⟨g,r,rfl,d,B,U,f,he⟩:=Nn h hf
 obtain⟨w,Z⟩:=RY.finish hC v hW h d B U f
 have b:=Ue v (a:=(g:Int))
 rw[he] at b ⊢
 obtain⟨O,A⟩:=h.ask g r B
 have q:=v.bZ.run g r B
 obtain⟨i,hi⟩:=Int.eq_ofNat_of_zero_le q.2.2.2.1.1
 have p:r.core.toNat=i:=by omega
 have F:(i:Int)<C.aD:=by omega
 rw[p] at O
 have β:r.bI=g:=q.2.1
 obtain⟨y,T,J,E⟩:=uk O
 have R:=v.bZ.len
 generalize α:(if r.lC then(M.nE ((M.bZ.oY r.bI.toNat ⟨r.then',false⟩).cQ g none)).pV (jW M.home r.bI) else M.nE ((M.bZ.oY r.bI.toNat ⟨r.then',false⟩).cQ g none))=M1 at*
 have m1:M1.bC=M.bC:=by grind
 have m2:M1.log=M.log:=by grind
 have m3:M1.bZ=(M.bZ.oY g ⟨r.then',false⟩).cQ g none:=by grind
 have m4:M1.home=if r.lC then jW M.home g else M.home:=by grind
 have m5:M1.cA=M.cA:=by grind
 have u:aT.bQ (M1.bC i) i 0 0=(((M.bC i).cQ y.b 0).lF ((M.bC i).at'+1),aT.ev (M.bC i) i y ((M.bC i).dX y.b.toNat) ((M.bC i).dX y.c.toNat) 0,0):=by
  rw[m1];unfold aT.bQ;rw[T];dsimp only;rw[aKj J]
 rw[p] at w Z b ⊢
 have D:(M1.bQ i 0 0).1=(M1.Mu i (((M.bC i).cQ y.b 0).lF ((M.bC i).at'+1))).Mv (aT.ev (M.bC i) i y ((M.bC i).dX y.b.toNat) ((M.bC i).dX y.c.toNat) 0):=by
  unfold cU.bQ;rw[u];rfl
 rw[D] at w b ⊢
 have δ:=bN.eE hC
 have P:=sQ d
 have e:∀l,(M1.home l).1=(M.home l).1:=fun l=>by
  rw[m4];split;unfold jW;split<;>rfl;rfl
 injection E with e1 e2 I W Y
 refine⟨g,i,y,aT.ev (M.bC i) i y ((M.bC i).dX y.b.toNat) ((M.bC i).dX y.c.toNat) 0,rfl,?_⟩
 constructor
 case gr=>exact d
 case ic=>exact F
 case nx=>exact T
 case log=>show M1.log++_=_;rw[m2]
 case core=>rfl
 case at'=>rfl
 case op=>exact J
 case word=>exact W.symm
 case code=>rfl
 case kJ=>
  show M1.bZ.cE[g]?=_
  rw[m3]
  show(M.bZ.cE.set g _)[g]?=_
  rw[List.getElem?_set_self (by omega)]
  have hv:r.then'=if y.a=4 then 4 else if y.a=2 then 0 else(M.bC i).dX y.c.toNat:=by
   rw[I,Y] at A;unfold gX at A;grind
  rw[hv];rfl
 case l0=>exact Zw hC b w P.1 (by show Pc.Clean (M1.home (g*2)).1;rw[e];exact f.1)
 case l1=>exact Zw hC b w P.2 (by show Pc.Clean (M1.home (g*2+1)).1;rw[e];exact f.2)
 case kn=>
  intro z k
  have hk:=(h.nC.over (o:=r.then') hC (by omega) d B U).2
  have k:z∈lQ M1.cA C.aD.toNat:=k
  rw[m5] at k
  unfold lQ tag at k
  simp only[List.mem_flatMap,List.mem_range,List.mem_map] at k
  obtain⟨j,γ,t,ht,rfl⟩:=k
  exact hk j (by omega) t ht
 case z=>
  intro ε
  have hs:r.lC=true:=by
   rw[I] at A;unfold gX at A;grind
  show(M1.home (g*2)).2=(0,0)/\(M1.home (g*2+1)).2=(0,0)
  rw[m4,aKj hs]
  unfold jW
  exact⟨by rw[aac],by rw[aac]⟩
end
end Go.Mc
namespace Go.Mc
open Go Go.Ab Go.Hm Go.At Go.Is Go.Ct Go.Nt
section
variable {C:bN} {M:cU} {c:jP}
theorem aAs {X:Nat->jP} {k:Nat} {x:Nat×(Int×Int)}:x∈lQ X k↔x.1<k/\x.2∈(X x.1).known:=by
 unfold lQ tag;simp only[List.mem_flatMap,List.mem_range,List.mem_map];constructor;rintro ⟨i,d,t,e,rfl⟩;exact⟨d,e⟩;rintro ⟨a,b⟩;exact⟨x.1,a,x.2,b,rfl⟩
end
end Go.Mc
namespace Go.Mc
open Go Go.Ab Go.Hm Go.At Go.Is Go.Ct Go.Nt Go.Pc
section
variable {C:bN} {N:Nat} {M:cU} {V:Nat->Ln}
theorem z6 {i:Nat} {s t:aT} {x:Ev} (h:rp i s x=some t):t.prog=s.prog:=by
 unfold rp at h;cases hl:aT.nV s i with
 |some r=>
  rw[hl] at h;dsimp only at h;split at h
  .cases h;unfold aT.nV at hl;cases hn:aT.next? s with
   |none=>rw[hn] at hl;cases hl
   |some y=>
    rw[hn] at hl;dsimp only at hl;repeat' split at hl
    all_goals first|(cases hl;rfl)|cases hl
  cases h
 |none=>
  rw[hl] at h;dsimp only at h;split at h
  .cases h;unfold aT.bQ;cases hn:aT.next? s with
   |none=>rfl
   |some y=>
    dsimp only;repeat' split
    all_goals rfl
  cases h
theorem Kz {i:Nat}:∀{l:List Ev} {s t:aT},jz i s l=some t->t.prog=s.prog
 |[],s,t,h=>by cases h;rfl
 |x::l,s,t,h=>by
  unfold jz at h;split at h;cases hr:rp i s x with
  |none=>rw[hr] at h;cases h
  |some u=>rw[hr] at h;rw[Kz h,z6 hr]
  exact Kz h
theorem yr {s:aT} {y:Ins} (d:s.Ok) (h:aT.next? s=some y):∃a:Nat,s.at'=a/\s.prog[a]?=some y:=by
 obtain⟨a,b⟩:=Int.eq_ofNat_of_zero_le d.1;refine⟨a,b,?_⟩;have f:=d.2.2.1;unfold aT.next? at h;split at h;cases h;rename_i e;cases h;rw[f] at e;unfold Ca at e;split at e;exact absurd rfl e;unfold Ak;rw[b] at e ⊢;rw[Int.toNat_natCast,List.getD_eq_getElem?_getD,List.getElem?_eq_getElem (by omega)];rfl
theorem aCe (h:RY C M V):∀y∈lQ M.cA C.aD.toNat,(y.1:Int)<C.aD/\0<=y.2.1/\y.2.1<C.aQ:=fun y b=>by
 obtain⟨d,a⟩:=aAs.1 b;exact⟨by omega,(h.nC.known y.1 (by omega) y.2 a).1⟩
end
section
variable {C:bN}
theorem RY.new {ps:List (List Ins)} {ws os vs:List Int} (hC:C.Ok) (b:(os.length:Int)=C.aQ):RY C (MC.new ⟨C,ps,ws,os,vs⟩) (At.words oC vs 0):=by
 have f:∀F:Nat->List aH,(∀c,F c=[])->(List.range C.aD.toNat).flatMap F=[]:=fun F h=>by
  simp_all
 have a:qT C (MC.new ⟨C,ps,ws,os,vs⟩).iC=[]:=by
  unfold qT;exact f _ fun c=>by rw[List.flatMap_eq_nil_iff];exact fun _ _=>rfl
 constructor;rw[a];refine⟨fun l b=>?_,fun _ _=>Ua,fun _ _=>Room.new,fun _ _=>rfl,fun _ h=>by cases h⟩;have e:((MC.new ⟨C,ps,ws,os,vs⟩).home l).1=vL:=by
  show(rX C.lines l).1=vL;unfold rX;rw[aKj b]
 rw[e];have d:cls C (MC.new ⟨C,ps,ws,os,vs⟩).cG l=fun _=>⟨0,(0,0),false,false,false,0,(0,0)⟩:=by
  funext i;exact qj
 rw[d];show Inv l vL (At.words oC vs 0 l) (At.words oC vs 0 l) _ [];exact(Inv.zero l).u5 (fun _ _=>rfl) (fun _ h=>by cases h);rw[a];refine iL.new (es:=os.map fun o=>(⟨o,false⟩:gZ)) (by grind) hC.2.1.1 fun x g=>?_;grind;exact fun _ _ h=>by cases h
 exact fun _ _ h=>by cases h
end
end Go.Mc
section
open Go Go.Ab
attribute [local irreducible] bG Br ld1 uF uG B4 mA uX lK P3 hQ mY qG pZ pS lH zE uE Uh Ty Oa Mr Rk Ol Md Ny Rn lN oT sF iV copyV iJ wV Tu U3 Gk kX Mb Qq Sb nL rR xM zA Cl zB Ro sM sC jS fL setLoop cH
namespace Go.Proofs.YtmhapehobfnoiaaGreatDoor
open Go Go.Ab Go.Hm Go.At Go.Mc Go.Ct Go.Nt Go.Is
section
theorem aCy {C:bN} {N:Nat} {M:cU} {V:Nat->Ln} (hC:C.Ok) (a:dU C N M) (b:Mc.RY C M V):Fit C (tD C M) where
 kJ:=by
  have f:=hC.2.1;have:=a.bZ.len;show(M.bZ.cE.length:Int)=_;omega
 mem:=by
  show((List.range C.lines).map fun i=>(M.home i).2).length=_;rw[List.length_map,List.length_range]
 qV:=(Mc.Ys hC a b).qV
 xQ:=Mc.aCe b
 hJ:=fun y e=>by
  obtain⟨k,_,d⟩:=List.mem_flatMap.1 (show y∈(List.range (4*C.aD.toNat)).flatMap (dW M.iC) from e);exact(Mc.Ys hC a b).hJ _ _ y d
 l1:=(Kr hC (Tq.of hC a)).1
 l2:=(Kr hC (Tq.of hC a)).2.1
 l3:=(Kr hC (Tq.of hC a)).2.2.2.1
theorem aC2 {C:bN} {ps:List (List Ins)} {ws os vs:List Int} (h:Gt C ps ws os vs=0):Mc.RZ C (X7 ps ws) 0 (MC.new ⟨C,ps,ws,os,vs⟩):=by
 obtain⟨hC,a,b,d,e,f,g,i⟩:=Ko h;have:=hC.2.1;exact⟨aAe h,_,Mc.RY.new hC (by omega)⟩
theorem aIm {C:bN} {M:cU} {d:Do} (h:¬(((M.tI C [d] 0).2.1:Nat):Int)=0):(M.Dp C d).2=0:=by
 unfold cU.tI at h;split at h;exact absurd rfl h;rename_i e;exact Decidable.not_not.1 e
set_option maxRecDepth 100000
variable {G:Bg} {h:AH} {L L':List HP} {Q:Value->AH->Prop} {Cf:bN} {m N:Nat} {M:cU} {s:Sh} {z:Sz}
variable {p2 p8 p12 p13 p14:Nat} {pv wv ov vv lv:Value}
theorem aAn {g:Nat} {j v d1 d2:Int} {y:Ins} {x:Ev} {w1 w2:Ln} {MR:HP} (hC:Cf.Ok) (hG:Gb G) (hF:Fit Cf s) (t:(g:Int)<Cf.aQ) (hc:∀y∈s.qV,y.2.1≠((g*2:Nat):Int)/\y.2.1≠((g*2+1:Nat):Int)) (B:∀y∈s.hJ,y.kind=8->y.line≠((g*2:Nat):Int)/\y.line≠((g*2+1:Nat):Int)) (k:∀y∈s.xQ,y.2.1≠g)
  (p:s.mem[g*2]?=some w1) (q:s.mem[g*2+1]?=some w2) (D:y.a≠4->w1=(0,0)/\w2=(0,0)) (J:x.op=8) (O:x.word=g) (F:x.code=0) (f:s.cE[g]?=some ⟨v,false⟩)
  (d:Hs G h (xU z.a1 z.c1 s.qV::Bz z.a2 z.c2 s.xQ::Rj z.a3 z.c3 s.cE::wU z.a4 z.c4 s.hJ::Ma z.a5 z.c5 s.mem::aE p12 0 (uS z s)::aE p8 0 (Do.enc ⟨3,g,d1,d2⟩)::aE p13 0 x.enc::aE p14 0 y.enc::MR::aE p2 0 (Py Cf pv wv ov vv)::L))
  (u:∀A,Hs G A (MR::aE p2 0 (Py Cf pv wv ov vv)::L)->Dd 7 5 [] Q [lv,pt p2 0 0,pt m 0 0,I j] A):
  (v=4->Dd 7 10 [] Q [lv,pt p2 0 0,pt m 0 0,I j,pt p8 0 0,pt p12 0 0,pt p13 0 0,pt p14 0 0] h)/\Dd 7 11 [] Q [lv,pt p2 0 0,pt m 0 0,I j,pt p8 0 0,pt p12 0 0,pt p13 0 0,pt p14 0 0,I v] h:=by
 refine⟨fun E=>bW ?_,bW ?_⟩
 .subst E;refine aA (an p2 d (l:=Cf.enc) rfl rfl (an p12 d (l:=uS z s) rfl rfl (aA (am p8 d (v:=I g) rfl ?_))));refine Zj hC hF t hG.lim hc B k d fun h d=>aI rfl (aI rfl (aA (an p2 d (l:=Cf.enc) rfl rfl (an p12 d (l:=uS z s) rfl rfl (aA (am p8 d (v:=I g) rfl ?_))))));refine Zo hC hF t hG.lim p q d fun h d=>aI rfl (aI rfl (bA (aaa (bA (aaa (bX (bV (bX (eN (dG (fun i=>?_) (fun i=>?_)))))))))));rotate_left
  .refine aA (am p14 d (v:=I y.a) rfl (bA (aJ (fun w=>of_decide_eq_false i (D w)) ?_)));refine aA (am p13 d (v:=I x.op) rfl (bA (aaa (aA (am p13 d (v:=I x.word) rfl (aA (am p8 d (v:=I g) rfl (bA (aaa (aA (am p13 d (v:=I x.code) rfl (bA (aaa ?_)))))))))))));exact aA (am p12 d rfl (aA (am p8 d (v:=I g) rfl (jV (l:=s.cE) (a:=z.a3) (c:=z.c3) (enc:=gZ.enc) (e:=52) d (by decide) (by omega) (by rw[Int.toNat_natCast];exact f) (aN (c:=gZ.enc ⟨4,false⟩) rfl (Rz (aJ (by simp) (u _ d.to))))))))
  .refine aA (am p13 d (v:=I x.op) rfl (bA (aaa (aA (am p13 d (v:=I x.word) rfl (aA (am p8 d (v:=I g) rfl (bA (aaa (aA (am p13 d (v:=I x.code) rfl (bA (aaa ?_)))))))))))));exact aA (am p12 d rfl (aA (am p8 d (v:=I g) rfl (jV (l:=s.cE) (a:=z.a3) (c:=z.c3) (enc:=gZ.enc) (e:=52) d (by decide) (by omega) (by rw[Int.toNat_natCast];exact f) (aN (c:=gZ.enc ⟨4,false⟩) rfl (Rz (aJ (by simp) (u _ d.to))))))))
 .refine aA (an p2 d (l:=Cf.enc) rfl rfl (an p12 d (l:=uS z s) rfl rfl (aA (am p8 d (v:=I g) rfl ?_))));refine Zj hC hF t hG.lim hc B k d fun h d=>aI rfl (aI rfl (aA (an p2 d (l:=Cf.enc) rfl rfl (an p12 d (l:=uS z s) rfl rfl (aA (am p8 d (v:=I g) rfl ?_))))));refine Zo hC hF t hG.lim p q d fun h d=>aI rfl (aI rfl (bA (aaa (bA (aaa (bX (bV (bX (eN (dG (fun i=>?_) (fun i=>?_)))))))))));rotate_left
  .refine aA (am p14 d (v:=I y.a) rfl (bA (aJ (fun w=>of_decide_eq_false i (D w)) ?_)));refine aA (am p13 d (v:=I x.op) rfl (bA (aaa (aA (am p13 d (v:=I x.word) rfl (aA (am p8 d (v:=I g) rfl (bA (aaa (aA (am p13 d (v:=I x.code) rfl (bA (aaa ?_)))))))))))));exact aA (am p12 d rfl (aA (am p8 d (v:=I g) rfl (jV (l:=s.cE) (a:=z.a3) (c:=z.c3) (enc:=gZ.enc) (e:=52) d (by decide) (by omega) (by rw[Int.toNat_natCast];exact f) (aN (c:=gZ.enc ⟨v,false⟩) rfl (Rz (aJ (by simp) (u _ d.to))))))))
  .refine aA (am p13 d (v:=I x.op) rfl (bA (aaa (aA (am p13 d (v:=I x.word) rfl (aA (am p8 d (v:=I g) rfl (bA (aaa (aA (am p13 d (v:=I x.code) rfl (bA (aaa ?_)))))))))))));exact aA (am p12 d rfl (aA (am p8 d (v:=I g) rfl (jV (l:=s.cE) (a:=z.a3) (c:=z.c3) (enc:=gZ.enc) (e:=52) d (by decide) (by omega) (by rw[Int.toNat_natCast];exact f) (aN (c:=gZ.enc ⟨v,false⟩) rfl (Rz (aJ (by simp) (u _ d.to))))))))
theorem aCn {l:List Do} {ps:List (List Ins)} {ws os vs:List Int} (hC:Cf.Ok) (hG:Gb G) (hl:l.length<=400) (hd:Wi G lv l) (ho:A.jl G pv wv ov vv ps ws os vs) (hp:(ps.length:Int)=Cf.aD) (hk:∀h',Q (.bool true) h'):
  ∀(f i:Nat) (M:cU) (h:AH),i+f=l.length->Mc.RZ Cf (X7 ps ws) (2*i) M->Hs G h (bU G Cf m M::aE p2 0 (Py Cf pv wv ov vv)::L)->Dd 7 3 [] Q [lv,pt p2 0 0,pt m 0 0,I i] h:=by
 have ι:=hC.2.1
 intro f
 induction f with
 |zero=>
  intro i M h hi hA t
  exact bW (aDj hd (aS (aaa (yG (hk _)))))
 |succ f ih=>
  intro i M h hi hA t
  obtain⟨d,hx,_⟩:=jY (l:=l) (i:=i) (by omega)
  have u:=hA.Dp hC (d:=d)
  have t:=zi hd t
  refine bW (aDj hd (aS (aae (bW (zr t (by decide) (mi hx) (bM t.tail fun p8 h t=>ax (b:=p8) t fun h t=>an p8 t (l:=d.enc) rfl rfl (aN (c:=d.enc) rfl (dK (W:=4) (n:=1) (c:=1) t rfl rfl rfl fun a h t=>?_))))))))
  have t:=t.cC (dH 4 62 (some a) 1 (1,d.enc)) (bU G Cf m M)
  refine aDt (M:=M) (m:=m) hC hG hA.all.inv (by omega) t fun h t=>aI rfl (aI rfl (bJ (aZ (fun e0=>aad (ih (i+1) _ h (by omega) u t.to)) (fun e0=>?_))))
  refine aA (am p8 t (v:=I d.nN) rfl (bA (aZ (fun _=>bW (aad (ih (i+1) _ h (by omega) u t.to))) (fun c3=>bW ?_))))
  obtain⟨w,a',R,T⟩:=d
  have c3:w=3:=Decidable.not_not.1 c3
  subst c3
  have hf:(M.finish Cf a').2=0:=aIm e0
  obtain⟨V,hX⟩:=hA.rx
  obtain⟨g,q,y,x,rfl,hB⟩:=Mc.aCs hC hA.all.inv hA.all.wait hX hf
  have hB:Mc.aBd Cf M (M.Dp Cf ⟨3,g,R,T⟩).1 g q y x:=hB
  generalize(M.Dp Cf ⟨3,g,R,T⟩).1=M' at*
  obtain⟨V',α⟩:=u.rx
  have B:=u.all.inv
  have hF:=aCy hC B α
  have J:=hB.log
  have κ:M'.log.length=M.log.length+1:=by rw[J];simp
  have θ:=u.all.len
  have γ:M'.log[(((M'.log.length:Nat):Int) - 1).toNat]?=some x:=by
   rw[show(((M'.log.length:Nat):Int) - 1).toNat=M.log.length by omega,J];simp
  obtain⟨at',β,E⟩:=Mc.yr (hA.all.inv.E9 q hB.ic) hB.nx
  obtain⟨p,O,_⟩:=jY (l:=ps) (i:=q) (by have:=hB.ic;omega)
  have ζ:(M.bC q).prog=p:=by
   rw[Mc.Kz (hA.all.jz q hB.ic)];unfold X7;rw[List.getD_eq_getElem?_getD,O];rfl
  rw[ζ] at E
  have η:=hF.kJ
  refine Wc (Cf:=Cf) (M:=M') (m:=m) (by omega) t fun ae ce h t=>?_
  refine xo (M:=M') (m:=m) hC hG.lim (Tq.of hC B) t fun z h t=>bM t fun p12 h t=>ax (b:=p12) t fun h t=>?_
  have t:=Hs.unpack (A:=shB z (tD Cf M')) (t.front (shR z (tD Cf M')))
  have t:Hs G h (xU z.a1 z.c1 (tD Cf M').qV::Bz z.a2 z.c2 (tD Cf M').xQ::Rj z.a3 z.c3 (tD Cf M').cE::wU z.a4 z.c4 (tD Cf M').hJ::Ma z.a5 z.c5 (tD Cf M').mem::aE p12 0 (uS z (tD Cf M'))::H7 ae ce M'.log::bU G Cf m M'::aE p8 0 (Do.enc ⟨3,g,R,T⟩)::aE p2 0 (Py Cf pv wv ov vv)::L):=t.to
  refine bP (bJ (aaa (aA (am p8 t (v:=I g) rfl (aS (aaa (aA (am p8 t (v:=I g) rfl (aA (am p12 t rfl (bP (dR (aJ (by have:=hB.gr;omega) (bW ?_))))))))))))))
  refine bP (xP (by omega) (jV (l:=M'.log) (a:=ae) (c:=ce) (enc:=Ev.enc) (e:=74) t (by decide) (by omega) γ (bM t fun p13 h t=>ax (b:=p13) t fun h t=>bE t fun rr h t=>aA (am p2 t (v:=pv) rfl (aA (am p13 t (v:=I q) (by show some (I x.core)=_;rw[hB.core]) ?_))))))
  obtain⟨vi,hv,ε,δ⟩:=ho.ps
  obtain⟨v,P,_⟩:=jY (l:=vi) (i:=q) (by have:=hB.ic;omega)
  have t:=Ah (e:=3) (by simp) ε t
  refine yO t (x:=[v]) (by simp[P]) rfl ?_
  have t:=A.Ib (δ q v p P O) t.tail
  refine aA (am p13 t (v:=I at') (by show some (I x.at')=_;rw[hB.at',β]) (zr t (by decide) (x:=y.enc) (by simp[A.Rc,E]) ?_))
  refine kQ (i:=10) (n:=12) (D:=[]) t.tail rfl rfl fun p14 h t=>ax (b:=p14) t fun h t=>?_
  refine aA (am p13 t (v:=I x.value) rfl (aA (am p14 t (v:=I y.a) rfl (bJ ?_))))
  have F:=aAn (m:=m) (lv:=lv) (j:=i) (y:=y) (x:=x) (s:=tD Cf M') (z:=z) (MR:=bU G Cf m M') (Q:=Q) (L:=L) (p8:=p8) (p2:=p2) (p12:=p12) (p13:=p13) (p14:=p14) (pv:=pv) (wv:=wv) (ov:=ov) (vv:=vv) (d1:=R) (d2:=T) hC hG hF hB.gr (fun w U=>⟨hB.l0.qV w U,hB.l1.qV w U⟩) (fun w U h8=>by
   obtain⟨k,_,h2⟩:=List.mem_flatMap.1 (show w∈(List.range (4*Cf.aD.toNat)).flatMap (dW M'.iC) from U);exact⟨hB.l0.gr _ _ w h2 h8,hB.l1.gr _ _ w h2 h8⟩) hB.kn (w1:=(M'.home (g*2)).2) (w2:=(M'.home (g*2+1)).2) ?_ ?_ hB.z hB.op hB.word hB.code hB.kJ t.to (fun h t=>bW (aad (ih (i+1) _ h (by omega) u t)))
  .refine aZ (fun Y=>bW ?_) (fun Y=>bW ?_)
   .refine aA (am p14 t (v:=I y.a) rfl (bJ (aaa ?_)));rw[aab,aKj Y] at F;exact F.2
   .refine aA (am p14 t (v:=I y.a) rfl (bJ (aZ (fun Z=>F.1 (aKj Z)) (fun Z=>?_))));rw[aKi Z,aKi Y] at F;exact F.2
  all_goals
   have μ:=bN.eE hC
   have:=hB.gr
   show((List.range Cf.lines).map fun i=>(M'.home i).2)[_]?=_
   rw[List.getElem?_map,List.getElem?_range (by omega)]
   rfl
theorem Lc {ps:List (List Ins)} {ws os vs:List Int} {l:List Do} (k:ps.length<=9223372036854775807) (hG:Gb G) (j:Ob G 1 yM) (d:A.jl G pv wv ov vv ps ws os vs) (g:Wi G lv l) (a:Hs G h L)
  (f:∀i,Q (.bool true) i):Cl Pr K 7 [.agg ⟨Py Cf pv wv ov vv⟩,lv] h Q:=by
 refine cW (dF (cs:=Py Cf pv wv ov vv) a fun p2 h a=>an p2 a (l:=Py Cf pv wv ov vv) rfl rfl ?_)
 refine aD8 k d a (fun t h a=>bX (eN (eZ ?_))) (fun h a=>bX (eN (bV (yG (f _)))))
 refine aDj g (mR (aZ (fun _=>yG (f _)) (fun q=>bW (an p2 a (l:=Py Cf pv wv ov vv) rfl rfl ?_))))
 refine yz (Cf:=Cf) (by omega) hG j d a (fun e h a=>?_) fun e m h a=>?_
 .exact aI rfl (aI rfl (bA (bS e (bA (bS e (Qa (eZ (yG (f _)))))))))
 refine aI rfl (aI rfl (bA (aaa (dD (bV (bW ?_))))))
 obtain⟨hC,p,_⟩:=Ko e
 exact aCn (L:=L) hC hG (by omega) g d (by have:=hC.1;omega) f l.length 0 _ h (by omega) (aC2 e) a
end
end Go.Proofs.YtmhapehobfnoiaaGreatDoor
end
