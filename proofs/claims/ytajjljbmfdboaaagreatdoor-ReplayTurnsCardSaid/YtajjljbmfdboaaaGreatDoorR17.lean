/- A part of the proof. -/
import Derived.Test.YtajjljbmfdboaaaGreatDoorR16
import Derived.Test.YtajjljbmfdboaaaGreatDoorR12
namespace Go.Pc
open Go Go.Ab Go.Hm Go.Ct
section
variable {n ways:Nat} {S:Nat->List Th} {no:Int} {x:pI} {s:gV} {C:bP} {core:Int}
def cK (n:Nat) (s:gV) (l:Nat):CL where
 st:=if(bB n s.S l).2=0 then(bB n s.S l).1.st else 0
 d:=if(bB n s.S l).2=0 then(bB n s.S l).1.d else(0,0)
 pB:=s.Dm&&decide (s.al=l)
 aw:=s.Dm&&decide (s.al=l)&&s.aw
 gi:=s.sE&&decide (s.gl=l)
 gs:=if s.sE=true/\s.gl=l then s.gc.st else 0
 gd:=if s.sE=true/\s.gl=l then s.gc.d else(0,0)
theorem Hg {l:Nat}:(cK n s l).st=if(bB n s.S l).2=0 then(bB n s.S l).1.st else 0:=rfl
theorem ze {l:Nat}:(cK n s l).d=if(bB n s.S l).2=0 then(bB n s.S l).1.d else(0,0):=rfl
theorem aBo {l:Nat}:(cK n s l).gs=if s.sE=true/\s.gl=l then s.gc.st else 0:=rfl
theorem aBk {l:Nat}:(cK n s l).gd=if s.sE=true/\s.gl=l then s.gc.d else(0,0):=rfl
theorem Rb {l:Int} {L:List Th} (h:l≠no):Go.Ct.get l (rem no L)=Go.Ct.get l L:=by
 induction L with
 |nil=>rfl
 |cons t L a=>
  unfold rem;split;rename_i e;unfold Go.Ct.get;grind;unfold Go.Ct.get at a ⊢;grind
theorem yk {l:Int} {L:List Th} (h:l≠no):Go.Ct.get l (L++[(no,x)])=Go.Ct.get l L:=by
 unfold Go.Ct.get;grind
theorem My {l:Int} {L:List Th} {m:Nat} (h:setOf n l=m->Go.Ct.get l L=Go.Ct.get l (S m)):bB n (aS S m L) l=bB n S l:=by
 unfold bB;split;rfl;by_cases e:setOf n l=m;rw[e,fE,h e];rw[cF e]
theorem kA {l:Int} (h:l≠no):bB n (gE n S no) l=bB n S l:=by
 unfold gE;split;rfl;exact My fun _=>Rb h
theorem kD {l:Int} (h:l≠no):bB n (jY n ways S no x).1 l=bB n S l:=by
 unfold jY;split;exact My fun _=>Rb h;exact My fun _=>by rw[yk h,Rb h]
theorem Db {l:Int} (h:l≠no):bB n (vR n ways S no) l=bB n S l:=by
 unfold vR;split;rw[kD h,kA h];exact kA h
theorem Gg (a:∀i,nR ways (S i)) (b:0<=no):(bB n (gE n S no) no).2=12:=by
 unfold gE;rw[aaa];unfold bB;rw[aaa,fE,Za (Iy (a _).nd)]
theorem Mo {i:Nat}:(gE n S no i).length<=(S i).length:=by
 unfold gE;split;exact Nat.le_refl _;unfold aS;split;rename_i e;subst e;exact uX.length_le;grind
theorem cz {i:Nat} (b:(bB n S no).2=0):((jY n ways S no x).1 i).length<=(S i).length:=by
 obtain⟨a,d⟩:=nO b;have:=J6 a;unfold jY;split;unfold aS;grind;unfold aS;grind
theorem Rv (f:∀i,nR ways (S i)) {i:Nat} (a:(bB n S no).2=0):(vR n ways S no i).length<=(S i).length:=by
 obtain⟨b,d⟩:=nO a;have g:=J6 b;unfold vR;rw[aJ7 a];unfold jY;have e:rem no (gE n S no (setOf n no))=rem no (S (setOf n no)):=by rw[Rf d,Z7 (f _).nd]
 rw[e];split;unfold aS;dsimp only;split;grind;exact Mo;unfold aS;dsimp only;split;grind;exact Mo
theorem av (d:(bB n S no).2=0):(gE n S no (setOf n no)).length<(S (setOf n no)).length:=by
 obtain⟨a,b⟩:=nO d;rw[Rf b];exact J6 a
structure Room (C:bP) (s:gV):Prop where
 al:s.Dm=true->(0<=s.al/\s.al<C.lines)/\((bB C.aI.toNat s.S s.al).2=0\/(s.S (setOf C.aI.toNat s.al)).length<C.ways.toNat)
 gl:s.sE=true->0<=s.gl/\s.gl<C.lines
 bd:∀l,(bB C.aI.toNat s.S l).2=0->l<C.lines
theorem Jm {l:Int}:(bB n gV.new.S l).2≠0:=by
 unfold bB gV.new Go.Ct.get;split<;>simp
theorem Room.new:Room C gV.new:=⟨(fun e=>by cases e),(fun e=>by cases e),fun _ e=>absurd e Jm⟩
theorem jd {l a p:Int} (g:iG C s) (h:Room C s):Room C (mL C s l a p):=by
 unfold mL;split
 .rename_i j;have f:=(qJ j).2.2.1;refine⟨fun e=>⟨(h.al e).1,?_⟩,h.gl,fun k o=>?_⟩;rotate_left;by_cases b:k=l;rw[b];exact(qJ j).1.2;exact h.bd k (by rw[<-o];exact(congrArg Prod.snd (Db b)).symm);rcases(h.al e).2 with d|d;left;by_cases b:s.al=l;show(bB C.aI.toNat (vR C.aI.toNat C.ways.toNat s.S l) s.al).2=0;rw[b,Ep g.aI f];exact f;show(bB C.aI.toNat (vR C.aI.toNat C.ways.toNat s.S l) s.al).2=0;rw[Db b];exact d;right;exact Nat.lt_of_le_of_lt (Rv g.aI f) d
 exact h
theorem W5 {l a p v:Int} (g:iG C s) (h:Room C s):Room C (iU C s l a p v):=by
 unfold iU;split
 .rename_i f;have j:=(qJ f).2.2.1;refine⟨fun e=>⟨(h.al e).1,?_⟩,h.gl,fun k o=>?_⟩;rotate_left;by_cases b:k=l;rw[b];exact(qJ f).1.2;exact h.bd k (by rw[<-o];exact(congrArg Prod.snd (kD b)).symm);rcases(h.al e).2 with d|d;left;show(bB C.aI.toNat (jY C.aI.toNat C.ways.toNat s.S l _).1 s.al).2=0;by_cases b:s.al=l;rw[b,Az g.aI (qJ f).1.1 (Aj g.aI j)];rw[kD b];exact d;right;exact Nat.lt_of_le_of_lt (cz j) d
 exact h
theorem aAc {l a g:Int} {k:Nat} (b:iG C s):cK C.aI.toNat (mL C s l a g) k=cK C.aI.toNat s k:=by
 unfold mL;split;rename_i f;have d:=(qJ f).2.2.1;unfold cK;have:bB C.aI.toNat (vR C.aI.toNat C.ways.toNat s.S l) k=bB C.aI.toNat s.S k:=by
  by_cases e:(k:Int)=l;rw[e];exact Ep b.aI d;exact Db e
 simp only[this];rfl
theorem Wp {l a b v:Int} {k:Nat} (h:(k:Int)≠l):cK C.aI.toNat (iU C s l a b v) k=cK C.aI.toNat s k:=by
 unfold iU;split;unfold cK;simp only[kD h];rfl
theorem tf {a j v:Int} {k:Nat} (g:iG C s) (h:lZ C s.S k a j true=0):
  ((cK C.aI.toNat s k).st=2\/(cK C.aI.toNat s k).st=4)/\cK C.aI.toNat (iU C s k a j v) k={cK C.aI.toNat s k with st:=4,d:=nf (cK C.aI.toNat s k).d a v}:=by
 have b:=qJ h
 have e:=b.2.2.1
 have f:(cK C.aI.toNat s k).st=(bB C.aI.toNat s.S k).1.st:=by rw[Hg,aJ7 e]
 constructor
 .rw[f];have:=b.2.2.2;unfold lH tP at this;simpa using this
 .unfold iU;rw[aJ7 h];unfold cK;have:=Az (ways:=C.ways.toNat) (x:=nZ C.aI.toNat s.S k a v) g.aI b.1.1 (Aj g.aI e);simp only[this,e,if_true];rfl
theorem km {nt:aJ} (b:nt.kind=9) {k:Nat} (f:nt.line=k) (d:k<C.lines) (a:(cK C.aI.toNat s k).pB=true):
  fT C core s nt=({s with al:=0,aw:=false,Dm:=false},[],0)/\cK C.aI.toNat {s with al:=0,aw:=false,Dm:=false} k={cK C.aI.toNat s k with pB:=false,aw:=false}/\
   ∀j:Nat,j≠k->cK C.aI.toNat {s with al:=0,aw:=false,Dm:=false} j=cK C.aI.toNat s j:=by
 have a:s.Dm=true/\s.al=k:=by unfold cK at a;simpa using a
 refine⟨?_,?_,?_⟩
 .unfold fT;rw[aaa,aJ7 b,aJ6 (by unfold rS;simp;omega)];unfold Ex;grind
 .unfold cK;simp
 .intro j e;unfold cK;have:decide (s.al=(j:Int))=false:=decide_eq_false (by omega);simp[this]
theorem Um {nt:aJ} (b:nt.kind=10) {k:Nat} (f:nt.line=k) (d:k<C.lines) (a:(cK C.aI.toNat s k).gi=true):
  fT C core s nt=({s with gl:=0,gc:=pI.zero,sE:=false},[],0)/\cK C.aI.toNat {s with gl:=0,gc:=pI.zero,sE:=false} k={cK C.aI.toNat s k with gi:=false,gs:=0,gd:=(0,0)}/\
   ∀j:Nat,j≠k->cK C.aI.toNat {s with gl:=0,gc:=pI.zero,sE:=false} j=cK C.aI.toNat s j:=by
 have a:s.sE=true/\s.gl=k:=by unfold cK at a;simpa using a
 refine⟨?_,?_,?_⟩
 .unfold fT;rw[aaa,aaa,aJ7 b,aJ6 (by unfold rS;simp;omega)];unfold sA;grind
 .unfold cK;simp
 .intro j e;unfold cK;grind
theorem Wj {nt:aJ} (z:nt.kind=8) {k:Nat} (g:nt.line=k) (B:k<C.lines) (p:iG C s) (t:Room C s) (a:(cK C.aI.toNat s k).pB=true) (_D:1<=nt.state/\nt.state<=4):
  ∃b,fT C core s nt=(b,[⟨4,core,nt.line,0,0,0,0,false,0⟩],0)/\b={s with S:=b.S,al:=0,aw:=false,Dm:=false}/\
   cK C.aI.toNat b k={cK C.aI.toNat s k with st:=nt.state,d:=if(cK C.aI.toNat s k).st≠0 then(cK C.aI.toNat s k).d else(nt.d0,nt.d1),pB:=false,aw:=false}/\
   (∀j:Nat,j≠k->cK C.aI.toNat b j=cK C.aI.toNat s j)/\Room C b:=by
 have a:s.Dm=true/\s.al=k:=by unfold cK at a;simpa using a
 have f:(jY C.aI.toNat C.ways.toNat s.S nt.line (iT C s nt)).2=0:=by
  rcases(t.al a.1).2 with h|h;rw[a.2,<-g] at h;exact Aj p.aI h;rw[a.2,<-g] at h;unfold jY;have:=uX (no:=nt.line) (l:=s.S (setOf C.aI.toNat nt.line));grind
 have o:=Az (ways:=C.ways.toNat) (x:=iT C s nt) p.aI (by omega:0<=nt.line) f
 refine⟨{s with S:=(jY C.aI.toNat C.ways.toNat s.S nt.line (iT C s nt)).1,al:=0,aw:=false,Dm:=false},?_,rfl,?_,?_,(fun e=>by cases e),t.gl,fun j u=>?_⟩
 .unfold fT;rw[aJ7 z,aJ6 (by unfold rS;simp;omega)];unfold vB;grind
 .unfold cK;rw[g] at o ⊢;simp only[o,if_true];have e:(iT C s nt).d=if(bB C.aI.toNat s.S k).2=0 then(bB C.aI.toNat s.S k).1.d else(nt.d0,nt.d1):=by unfold iT;rw[g]
  rw[e]
  by_cases q:(bB C.aI.toNat s.S k).2=0
  .have:=sK p.aI q;have w:(bB C.aI.toNat s.S k).1.st≠0:=by omega
   simp[iT,q,w]
  .simp[iT,q]
 .intro j u;unfold cK;have y:decide (s.al=(j:Int))=false:=decide_eq_false (by omega);rw[g];simp only[kD (show(j:Int)≠(k:Int) by omega),y];simp
 .by_cases v:j=nt.line
  .omega
  .exact t.bd j (by rw[<-u];exact(congrArg Prod.snd (kD v)).symm)
theorem X7 {nt:aJ} (T:nt.kind=11) {k:Nat} (p:nt.line=k) (U:k<C.lines) (z:iG C s) (o:Room C s) (Y:nt.state=0\/nt.state=1)
  (Q:(cK C.aI.toNat s k).st≠0\/((cK C.aI.toNat s k).st=0/\(cK C.aI.toNat s k).gi=true)):
  ∃f y,fT C core s nt=(f,[y],0)/\f.al=s.al/\f.aw=s.aw/\f.Dm=s.Dm/\f.gl=s.gl/\f.sE=s.sE/\Room C f/\
   (y.kind=5/\y.core=core/\y.line=k/\y.world=0/\y.no=0/\∀σ δ,σ=(if(cK C.aI.toNat s k).st≠0 then(cK C.aI.toNat s k).st else(cK C.aI.toNat s k).gs)->δ=(if(cK C.aI.toNat s k).st≠0 then(cK C.aI.toNat s k).d else(cK C.aI.toNat s k).gd)->
    y.state=gG σ nt.state/\(y.jU=true↔σ=3\/σ=4)/\(y.jU=true->(y.d0,y.d1)=δ))/\
   ((cK C.aI.toNat f k).pB=(cK C.aI.toNat s k).pB/\(cK C.aI.toNat f k).aw=(cK C.aI.toNat s k).aw/\(cK C.aI.toNat f k).gi=(cK C.aI.toNat s k).gi/\(cK C.aI.toNat f k).gd=(cK C.aI.toNat s k).gd)/\
   ((cK C.aI.toNat s k).st≠0->(cK C.aI.toNat f k).st=gG (cK C.aI.toNat s k).st nt.state/\((cK C.aI.toNat f k).st≠0->(cK C.aI.toNat f k).d=(cK C.aI.toNat s k).d)/\(cK C.aI.toNat f k).gs=(cK C.aI.toNat s k).gs)/\
   ((cK C.aI.toNat s k).st=0->(cK C.aI.toNat f k).st=0/\(cK C.aI.toNat f k).gs=gG (cK C.aI.toNat s k).gs nt.state)/\
   (∀j:Nat,j≠k->cK C.aI.toNat f j=cK C.aI.toNat s j):=by
 have v:∀(x:pI),(gR core nt x).kind=5/\(gR core nt x).core=core/\(gR core nt x).line=nt.line/\(gR core nt x).world=0/\(gR core nt x).no=0/\(gR core nt x).state=gG x.st nt.state/\((gR core nt x).jU=true↔x.st=3\/x.st=4)/\((gR core nt x).jU=true->((gR core nt x).d0,(gR core nt x).d1)=x.d):=fun x=>by
  unfold gR;split;refine⟨rfl,rfl,rfl,rfl,rfl,rfl,?_,fun _=>rfl⟩;show jF x.st=true↔_;unfold jF;simp;rename_i e;refine⟨rfl,rfl,rfl,rfl,rfl,rfl,?_,fun e=>by cases e⟩;show false=true↔_;unfold C7 at e;grind
 have Z:fT C core s nt=nJ C core s nt:=by
  unfold fT;rw[aaa,aaa,aaa,aJ7 T,aJ6 (by unfold rS;simp;omega)]
 rw[Z]
 unfold nJ
 rw[aaa]
 by_cases u:(bB C.aI.toNat s.S nt.line).2=0
 .rw[aJ7 u];have L:=sK z.aI u;have q:(bB C.aI.toNat s.S k).2=0:=by rw[<-p];exact u
  have d:(cK C.aI.toNat s k).st=(bB C.aI.toNat s.S nt.line).1.st:=by rw[Hg,aJ7 q,p]
  have G:(cK C.aI.toNat s k).d=(bB C.aI.toNat s.S nt.line).1.d:=by rw[ze,aJ7 q,p]
  have F:(cK C.aI.toNat s k).st≠0:=by rw[d];omega
  have b:=v (bB C.aI.toNat s.S nt.line).1
  have R:∀w:Nat->List Th,({s with S:=w}:gV).al=s.al:=fun _=>rfl
  have a:∀w:Nat->List Th,(cK C.aI.toNat {s with S:=w} k).pB=(cK C.aI.toNat s k).pB/\(cK C.aI.toNat {s with S:=w} k).aw=(cK C.aI.toNat s k).aw/\(cK C.aI.toNat {s with S:=w} k).gi=(cK C.aI.toNat s k).gi/\(cK C.aI.toNat {s with S:=w} k).gd=(cK C.aI.toNat s k).gd/\(cK C.aI.toNat {s with S:=w} k).gs=(cK C.aI.toNat s k).gs:=fun _=>⟨rfl,rfl,rfl,rfl,rfl⟩
  by_cases I:gG (bB C.aI.toNat s.S nt.line).1.st nt.state=0
  .simp only[aJ7 I];refine⟨_,_,rfl,rfl,rfl,rfl,rfl,rfl,⟨fun e=>⟨(o.al e).1,?_⟩,o.gl,fun j B=>?_⟩,⟨b.1,b.2.1,by rw[b.2.2.1,p],b.2.2.2.1,b.2.2.2.2.1,fun σ δ P O=>?_⟩,⟨(a _).1,(a _).2.1,(a _).2.2.1,(a _).2.2.2.1⟩,fun _=>⟨?_,fun J=>?_,(a _).2.2.2.2⟩,fun e=>absurd e F,fun j B=>?_⟩
   .by_cases t:s.al=nt.line
    .right;show(gE C.aI.toNat s.S nt.line (setOf C.aI.toNat s.al)).length<_;rw[t];exact Nat.lt_of_lt_of_le (av u) (z.aI _).len
    .rcases(o.al e).2 with h|h
     .left;show(bB C.aI.toNat (gE C.aI.toNat s.S nt.line) s.al).2=0;rw[kA t];exact h
     .right;exact Nat.lt_of_le_of_lt Mo h
   .by_cases t:j=nt.line
    .omega
    .exact o.bd j (by rw[<-B];exact(congrArg Prod.snd (kA t)).symm)
   .grind
   .rw[d,I];rw[Hg,aJ6];show ¬(bB C.aI.toNat (gE C.aI.toNat s.S nt.line) k).2=0;rw[<-p,Gg z.aI (by omega)];decide
   .exfalso;apply J;rw[Hg,aJ6];show ¬(bB C.aI.toNat (gE C.aI.toNat s.S nt.line) k).2=0;rw[<-p,Gg z.aI (by omega)];decide
   .unfold cK;simp only[kA (show(j:Int)≠nt.line by omega)]
  .simp only[aJ6 I];have W:=Az (ways:=C.ways.toNat) (x:={(bB C.aI.toNat s.S nt.line).1 with st:=gG (bB C.aI.toNat s.S nt.line).1.st nt.state}) z.aI (by omega:0<=nt.line) (Aj z.aI u);refine⟨_,_,rfl,rfl,rfl,rfl,rfl,rfl,⟨fun e=>⟨(o.al e).1,?_⟩,o.gl,fun j B=>?_⟩,⟨b.1,b.2.1,by rw[b.2.2.1,p],b.2.2.2.1,b.2.2.2.2.1,fun σ δ P O=>?_⟩,⟨(a _).1,(a _).2.1,(a _).2.2.1,(a _).2.2.2.1⟩,fun _=>⟨?_,fun J=>?_,(a _).2.2.2.2⟩,fun e=>absurd e F,fun j B=>?_⟩
   .by_cases t:s.al=nt.line
    .grind
    .rcases(o.al e).2 with h|h
     .left;show(bB C.aI.toNat (jY C.aI.toNat C.ways.toNat s.S nt.line _).1 s.al).2=0;rw[kD t];exact h
     .right;exact Nat.lt_of_le_of_lt (cz u) h
   .by_cases t:j=nt.line
    .omega
    .exact o.bd j (by rw[<-B];exact(congrArg Prod.snd (kD t)).symm)
   .grind
   .rw[d,Hg];grind
   .rw[G,ze];grind
   .unfold cK;simp only[kD (show(j:Int)≠nt.line by omega)]
 .rw[aJ6 u];have q:¬(bB C.aI.toNat s.S k).2=0:=by rw[<-p];exact u
  have d:(cK C.aI.toNat s k).st=0:=by rw[Hg,aJ6 q]
  have g:s.sE=true/\s.gl=k:=by
   rcases Q with h|h;exact absurd d h;have:=h.2;unfold cK at this;simpa using this
  rw[aJ6 (by rw[g.1];simp),aaa]
  have b:=v s.gc
  have E:(cK C.aI.toNat s k).gs=s.gc.st:=by rw[aBo,aJ7 g]
  have D:(cK C.aI.toNat s k).gd=s.gc.d:=by rw[aBk,aJ7 g]
  refine⟨_,_,rfl,rfl,rfl,rfl,rfl,rfl,⟨o.al,o.gl,o.bd⟩,⟨b.1,b.2.1,by rw[b.2.2.1,p],b.2.2.2.1,b.2.2.2.2.1,fun σ δ P O=>?_⟩,⟨rfl,rfl,rfl,?_⟩,fun e=>absurd d e,fun _=>⟨d,?_⟩,fun j B=>?_⟩
  .grind
  .rw[D,aBk,aJ7 (show s.sE=true/\s.gl=k from g)]
  .rw[E,aBo,aJ7 (show s.sE=true/\s.gl=k from g)]
  .unfold cK;grind
end
section
variable {C:bP} {H:kK} {X:Nat->gV} {V:Nat->Ln} {N N':List aJ} {n:aJ} {s:gV}
def PK (k:Int):Prop:=(1<=k/\k<=5)\/(8<=k/\k<=11)
instance (k:Int):Decidable (PK k):=by unfold PK;infer_instance
def lnN (l:Nat) (n:aJ):Bool:=decide (n.line=(l:Int)/\PK n.kind)
def F0 (l:Nat) (N:List aJ):List aJ:=N.filter (lnN l)
theorem Mf {l:Nat} (h:n.line=(l:Int)) (a:PK n.kind):F0 l (n::N)=n::F0 l N:=by
 unfold F0;rw[List.filter_cons_of_pos (by unfold lnN;grind)]
theorem Gq {l:Nat} (h:¬(n.line=(l:Int)/\PK n.kind)):F0 l (n::N)=F0 l N:=by
 unfold F0;rw[List.filter_cons_of_neg (by unfold lnN;grind)]
theorem Dh {l:Nat}:F0 l (N++N')=F0 l N++F0 l N':=List.filter_append N N'
theorem zm {l:Nat} (h:∀x∈N,x.line=(l:Int)/\PK x.kind):F0 l N=N:=List.filter_eq_self.2 fun x a=>decide_eq_true (h x a)
theorem U7 {l:Nat} (h:∀x∈N,¬(x.line=(l:Int)/\PK x.kind)):F0 l N=[]:=List.filter_eq_nil_iff.2 fun x a=>by unfold lnN;grind
abbrev cls (C:bP) (X:Nat->gV) (l:Nat):wh:=fun i=>cK C.aI.toNat (X i) l
structure mV (C:bP) (H:kK) (X:Nat->gV) (V:Nat->Ln) (N:List aJ):Prop where
 line:∀l:Nat,l<C.lines->Inv l (H l).1 (H l).2 (V l) (cls C X l) (F0 l N)
 uH:∀i:Nat,i<4->iG C (X i)
 room:∀i:Nat,i<4->Room C (X i)
 new:∀i:Nat,C.aE<=(i:Int)->X i=gV.new
 nb:∀x∈N,PK x.kind->(0<=x.core/\x.core<C.aE)/\(0<=x.line/\x.line<C.lines)
theorem vq {n l:Nat}:cK n gV.new l=⟨0,(0,0),false,false,false,0,(0,0)⟩:=by
 unfold cK;rw[aJ6 Jm,aJ6 Jm];rfl
theorem yA {i l:Nat} {s:gV}:cls C (aS X i s) l=aS (cls C X l) i (cK C.aI.toNat s l):=by
 funext j;show cK C.aI.toNat (aS X i s j) l=_;by_cases e:j=i;subst e;rw[fE,fE];rw[cF e,cF e]
theorem qR {i l:Nat} {s:gV} (h:cK C.aI.toNat s l=cK C.aI.toNat (X i) l):cls C (aS X i s) l=cls C X l:=by
 funext j;show cK C.aI.toNat (aS X i s j) l=_;by_cases e:j=i;subst e;rw[fE];exact h;rw[cF e]
theorem mV.perm (h:mV C H X V N) (p:N.Perm N'):mV C H X V N':=
 ⟨fun l a=>(h.line l a).perm (p.filter _),h.uH,h.room,h.new,fun x b=>h.nb x (p.symm.mem_iff.1 b)⟩
theorem mV.skip (h:mV C H X V (n::N)) (a:¬PK n.kind):mV C H X V N:=
 ⟨fun l b=>by have:=h.line l b;rw[Gq (fun e=>a e.2)] at this;exact this,h.uH,h.room,h.new,fun x d=>h.nb x (List.mem_cons_of_mem _ d)⟩
theorem mV.more (h:mV C H X V N) (b:∀x∈N',¬PK x.kind):mV C H X V (N'++N):=
 ⟨fun l d=>by have:=h.line l d;rw[Dh,U7 (fun x a e=>b x a e.2)];exact this,h.uH,h.room,h.new,fun x a f=>by
  rcases List.mem_append.1 a with a|a;grind;exact h.nb x a f⟩
theorem mV.i4 (hC:C.Ok) {i:Int} (h:0<=i/\i<C.aE):i.toNat<4/\((i.toNat:Nat):Int)=i:=by
 unfold bP.Ok at hC;omega
theorem mV.fM {k:Nat} {d:kK} {b:Nat->gV} {V':Nat->Ln} {A:List aJ} (h:mV C H X V N) (B:k<C.lines)
  (p:Inv k (d k).1 (d k).2 (V' k) (cls C b k) (A++F0 k N')) (v:∀l,l≠k->d l=H l) (w:∀l,l≠k->V' l=V l) (y:∀l,l≠k->cls C b l=cls C X l)
  (hA:∀x∈A,x.line=(k:Int)/\PK x.kind/\0<=x.core/\x.core<C.aE) (j:∀l,l≠k->F0 l N'=F0 l N) (f:∀x∈N',x∈N)
  (o:∀i:Nat,i<4->iG C (b i)) (u:∀i:Nat,i<4->Room C (b i)) (q:∀i:Nat,C.aE<=(i:Int)->b i=gV.new):mV C d b V' (A++N'):=by
 refine⟨fun l g=>?_,o,u,q,fun x a t=>?_⟩
 .by_cases e:l=k
  .subst e;rw[Dh,zm (fun x a=>⟨(hA x a).1,(hA x a).2.1⟩)];exact p
  .rw[v l e,w l e,y l e,Dh,U7 (fun x a z=>e (by grind)),List.nil_append,j l e];exact h.line l g
 .rcases List.mem_append.1 a with a|a
  .grind
  .exact h.nb x (f x a) t
theorem qW {i:Nat} {s:gV} (h:mV C H X V N) (a:iG C s):∀j:Nat,j<4->iG C (aS X i s j):=fun j b=>by
 by_cases e:j=i;subst e;rw[fE];exact a;rw[cF e];exact h.uH j b
theorem qP {i:Nat} {s:gV} (h:mV C H X V N) (a:Room C s):∀j:Nat,j<4->Room C (aS X i s j):=fun j b=>by
 by_cases e:j=i;subst e;rw[fE];exact a;rw[cF e];exact h.room j b
theorem uI {i:Nat} {s:gV} (h:mV C H X V N) (b:(i:Int)<C.aE):∀j:Nat,C.aE<=(j:Int)->aS X i s j=gV.new:=fun j a=>by
 rw[cF (by omega)];exact h.new j a
theorem mV.cache (h:mV C H X V (n::N)) (hC:C.Ok) (hk:8<=n.kind/\n.kind<=11):
  ∃w out,fT C n.core (X n.core.toNat) n=(w,out,0)/\mV C H (aS X n.core.toNat w) V (out++N)/\(∀x∈out,x.line=n.line/\PK x.kind):=by
 have hb:=h.nb n (by simp) (.inr hk)
 obtain⟨O,P⟩:=mV.i4 hC hb.1
 obtain⟨i,o,p⟩:∃i:Nat,i<4/\n.core=(i:Int):=⟨n.core.toNat,O,P.symm⟩
 obtain⟨k,d,g⟩:∃k:Nat,k<C.lines/\n.line=(k:Int):=⟨n.line.toNat,by omega,by omega⟩
 have e0:n.core.toNat=i:=by omega
 rw[e0,p]
 have E:=h.line k d
 rw[Mf g (.inr hk)] at E
 have I:∀l,l≠k->F0 l N=F0 l (n::N):=fun l e=>(Gq (fun e2=>e (by omega))).symm
 have t:∀x∈N,x∈n::N:=fun x j=>List.mem_cons_of_mem _ j
 have b:∀{w:gV} {out:List aJ} {e:Int},(n.kind=8->1<=n.state/\n.state<=4)->fT C (i:Int) (X i) n=(w,out,e)->iG C w:=fun hv e=>by
  have:=Py (core:=(i:Int)) hv (h.uH i o);grind
 have Z:cls C X k i=cK C.aI.toNat (X i) k:=rfl
 rcases(by omega:n.kind=8\/n.kind=9\/n.kind=10\/n.kind=11) with k8|k9|G|D
 .have f:=E.granted (d':=if(cls C X k i).st≠0 then(cls C X k i).d else(n.d0,n.d1)) k8 o p rfl;obtain⟨w,a,u,q,R,T⟩:=Wj (core:=(i:Int)) k8 g d (h.uH i o) (h.room i o) f.1.1 (by omega);refine⟨w,_,a,?_,fun x j=>by rw[List.mem_singleton.1 j];exact⟨rfl,by show PK 4;decide⟩⟩;refine h.fM (A:=[_]) d ?_ (fun _ _=>rfl) (fun _ _=>rfl) (fun l e=>qR (R l e)) (fun x j=>?_) I t (qW h (b (fun _=>by omega) a)) (qP h T) (uI h (by omega))
  .rw[yA,q,g];exact f.2
  .rw[List.mem_singleton.1 j];exact⟨g,.inl (show(1:Int)<=4/\(4:Int)<=5 by omega),show(0:Int)<=(i:Int)/\(i:Int)<C.aE by omega⟩
 .have f:=E.aHw k9 o p;obtain⟨a,u,q⟩:=km (core:=(i:Int)) k9 g d f.1;refine⟨_,_,a,?_,fun x j=>by cases j⟩;refine h.fM (A:=[]) d ?_ (fun _ _=>rfl) (fun _ _=>rfl) (fun l e=>qR (q l e)) (fun x j=>by cases j) I t (qW h (b (by omega) a)) (qP h ⟨(fun e=>by cases e),(h.room i o).gl,(h.room i o).bd⟩) (uI h (by omega));rw[yA,u];exact f.2
 .have f:=E.aCa (gd':=(0,0)) (gs':=0) G o p rfl;obtain⟨a,u,q⟩:=Um (core:=(i:Int)) G g d f.1;refine⟨_,_,a,?_,fun x j=>by cases j⟩;refine h.fM (A:=[]) d ?_ (fun _ _=>rfl) (fun _ _=>rfl) (fun l e=>qR (q l e)) (fun x j=>by cases j) I t (qW h (b (by omega) a)) (qP h ⟨(h.room i o).al,(fun e=>by cases e),(h.room i o).bd⟩) (uI h (by omega));rw[yA,u];exact f.2
 .obtain⟨_,_,_,Y,W,hw⟩:=E.found D o p;obtain⟨w,y,a,ea,eb,ec,ed,ee,Q,v,z,U,L,F⟩:=X7 (core:=(i:Int)) D g d (h.uH i o) (h.room i o) W hw;refine⟨w,_,a,?_,fun x j=>by rw[List.mem_singleton.1 j];exact⟨by rw[v.2.2.1,g],by unfold PK;rw[v.1];omega⟩⟩;refine h.fM (A:=[y]) d ?_ (fun _ _=>rfl) (fun _ _=>rfl) (fun l e=>qR (F l e)) (fun x j=>?_) I t (qW h (b (by omega) a)) (qP h Q) (uI h (by omega))
  .rw[yA];have J:HH k (H k).1 (cls C X k) (n::F0 k N) i=if(cls C X k i).st≠0 then(cls C X k i).st else(cls C X k i).gs:=by
    unfold HH at Y ⊢;by_cases e:(cls C X k i).st=0;rw[(Pk Y e).2.2,aJ6 (by simpa using e)];unfold uE;grind
   have B:=v.2.2.2.2.2 _ _ J rfl
   exact E.aDy D o p z U L ⟨v.1,v.2.1,v.2.2.1,B.1,B.2.1,B.2.2⟩
  .rw[List.mem_singleton.1 j];exact⟨v.2.2.1,by unfold PK;rw[v.1];omega,by rw[v.2.1];omega⟩
theorem mV.there {i k:Nat} (h:mV C H X V N) (hc:(cls C X k i).pB=true\/(cls C X k i).gi=true\/(cls C X k i).st≠0):(i:Int)<C.aE:=by
 apply Classical.byContradiction;intro e;have:cls C X k i=⟨0,(0,0),false,false,false,0,(0,0)⟩:=by show cK _ (X i) k=_;rw[h.new i (by omega),vq]
 grind
theorem mV.waiter {k:Nat} (h:mV C H X V N) (o:k<C.lines) {x:aJ} (f:x∈(H k).1.waits) (p:x.kind≠0):0<=x.core/\x.core<C.aE:=by
 have d:=h.line k o;have b:=d.row.waits x f;obtain⟨i,g,a,_⟩:=fO b.2.1;refine⟨b.2.1.1,?_⟩;rw[a];rcases(by omega:x.kind=1\/x.kind=2\/x.kind=3) with e|e|e;have:=fR f e a b.1;have j:=d.t1 i g;exact h.there (k:=k) (.inl (by grind));have:=fR f e a b.1;have j:=d.t1 i g;exact h.there (k:=k) (.inl (by grind));have:=fR f e a b.1;have j:=d.t2 i g;exact h.there (k:=k) (.inr (.inl (by grind)))
theorem mV.aD8 {k i:Nat} (h:mV C H X V N) (_d:k<C.lines) (_b:i<4) (a:HH k (H k).1 (cls C X k) (F0 k N) i≠0):(i:Int)<C.aE:=by
 unfold HH at a;by_cases e:(cls C X k i).st=0;exact h.there (k:=k) (.inr (.inl (Pk a e).1));exact h.there (k:=k) (.inr (.inr e))
end
section
variable {C:bP} {H:kK} {X:Nat->gV} {V:Nat->Ln} {N N':List aJ} {n:aJ} {s:gV}
theorem N7 {r:Row} {line:Int} {d:Ln}:∀y∈(r.eE line d).2,y.kind=8/\y.core=r.served.core/\y.line=line:=by
 intro y a;unfold Row.eE at a;split at a;rw[List.mem_singleton.1 a];exact⟨rfl,rfl,rfl⟩;split at a<;>(rw[List.mem_singleton.1 a];exact⟨rfl,rfl,rfl⟩)
theorem yD {r:Row}:(r.heard n).served=r.served:=by
 unfold Row.heard;split;rfl;split<;>split<;>rfl
theorem im {r:Row} {m:Ln} {line:Int}:∀y∈(mA.mW (r,m) line n).2,y.kind=8/\y.core=r.served.core/\y.line=line/\r.served.kind≠0:=by
 intro y a;unfold mA.mW at a;dsimp only at a;unfold Row.rest at a;split at a;split at a;cases a;rename_i b;have:=N7 y a;rw[yD] at this b;grind;cases a
theorem Di {line st:Int} {S:List Nat}:∀y∈eG line st S,y.kind=11/\y.line=line/\∃a∈S,y.core=(a:Int):=by
 intro y b;unfold eG at b;grind
theorem Hj {r:Row} {x:Int} {a:Nat} (h:a∈r.gC x):a<4/\(r.sh a=true\/r.owner=(a:Int)):=by
 have:=qQ.1 h;have b:=this.2;unfold Row.holds at b;grind
theorem jh {r:Row} {line:Int} {m:Ln} {j:Int->Int×Bool} (z:n.kind=0\/n.kind=1\/n.kind=2\/n.kind=3) (B: -1<=r.owner/\r.owner<4):∀y∈(Row.begun r line m n j).2,y.line=line/\(8<=y.kind/\y.kind<=11)/\((y.core=n.core/\n.kind≠0)\/∃a:Nat,a<4/\y.core=(a:Int)/\(r.sh a=true\/r.owner=(a:Int))):=by
 intro y b;unfold Row.begun at b;by_cases t:n.kind=3;rw[aJ7 t] at b;rw[List.mem_singleton.1 b];exact⟨rfl,⟨show(8:Int)<=10 by omega,show(10:Int)<=11 by omega⟩,.inl ⟨rfl,by omega⟩⟩;rw[aJ6 t] at b;by_cases f:n.kind=1\/n.kind=2;rw[aJ7 f] at b;have v:n.kind≠0:=by omega
 by_cases q:(j n.world).2=true;rw[aJ7 q] at b;unfold Row.get at b;dsimp only at b;have gr:∀{o:Row} {d:Ln},o.served=n->y∈(o.eE line d).2->y.line=line/\(8<=y.kind/\y.kind<=11)/\((y.core=n.core/\n.kind≠0)\/∃a:Nat,a<4/\y.core=(a:Int)/\(r.sh a=true\/r.owner=(a:Int))):=fun {o d} e b=>by
  have:=N7 y b;grind
 split at b;unfold Row.getM at b;split at b;obtain⟨p,h,a,g,k⟩:=Di y b;have:=Hj g;exact⟨h,by omega,.inr ⟨a,this.1,k,this.2⟩⟩;exact gr rfl b;unfold Row.Tq at b;have w:((r.serve n (j n.world).1).nQ).owner=r.owner\/((r.serve n (j n.world).1).nQ).owner= -1:=by
  unfold Row.nQ;split;exact .inr rfl;exact .inl rfl
 split at b;rename_i u;obtain⟨p,h,a,g,k⟩:=Di y b;grind;refine gr ?_ b;unfold Row.nQ;split<;>rfl;rw[aJ6 q] at b;rw[List.mem_singleton.1 b];exact⟨rfl,⟨show(8:Int)<=9 by omega,show(9:Int)<=11 by omega⟩,.inl ⟨rfl,v⟩⟩;rw[aJ6 f] at b;split at b;cases b;obtain⟨p,h,a,g,k⟩:=Di y b;have:=Hj g;grind
theorem mV.homes (h:mV C H X V (n::N)) (hC:C.Ok) (I:1<=n.kind/\n.kind<=5):
  ∃a out,fD C H n=(a,out,0)/\mV C a X V (out++N)/\(∀x∈out,x.line=n.line/\PK x.kind)/\(∀l:Nat,(l:Int)≠n.line->a l=H l):=by
 have w:=h.nb n (by simp) (.inl I)
 obtain⟨D,E⟩:=mV.i4 hC w.1
 obtain⟨i,Q,B⟩:∃i:Nat,i<4/\n.core=(i:Int):=⟨n.core.toNat,D,E.symm⟩
 obtain⟨k,g,f⟩:∃k:Nat,k<C.lines/\n.line=(k:Int):=⟨n.line.toNat,by omega,by omega⟩
 have J:n.line.toNat=k:=by omega
 have b:=h.line k g
 rw[Mf f (.inl I)] at b
 have O:∀l,l≠k->F0 l N=F0 l (n::N):=fun l e=>(Gq (fun t=>e (by omega))).symm
 have v:∀x∈N,x∈n::N:=fun x j=>List.mem_cons_of_mem _ j
 have R:fD C H n=(aS H k (mA.take (H k) k n).1,(mA.take (H k) k n).2):=by
  unfold fD;rw[aJ6 (by unfold fI;omega),aJ7 ⟨w.1,by unfold bP.has;exact w.2⟩,J,f]
 have done:∀(q:mA) (out:List aJ),mA.take (H k) k n=(q,out,0)->Inv k q.1 q.2 (V k) (cls C X k) (out++F0 k N)->(∀y∈out,y.line=(k:Int)/\PK y.kind/\0<=y.core/\y.core<C.aE)->
   ∃a out,fD C H n=(a,out,0)/\mV C a X V (out++N)/\(∀x∈out,x.line=n.line/\PK x.kind)/\(∀l:Nat,(l:Int)≠n.line->a l=H l):=fun q out e d hA=>by
  rw[R,e]
  refine⟨_,_,rfl,h.fM (A:=out) g ?_ (fun l t=>cF t) (fun _ _=>rfl) (fun _ _=>rfl) hA O v h.uH h.room h.new,fun x j=>⟨by rw[(hA x j).1,f],(hA x j).2.1⟩,fun l t=>cF (by omega)⟩
  rw[fE];exact d
 have j:H k=((H k).1,(H k).2):=rfl
 by_cases F:n.kind=4
 .obtain⟨p,u,L⟩:=b.uq F;refine done ((H k).1.free,(H k).2) [] ?_ L (fun y o=>by cases o);unfold mA.take;rw[aJ7 F,aJ6 (by rw[p];simp;exact u)]
 .by_cases G:n.kind=5
  .obtain⟨p,u⟩:=b.mW G;refine done (mA.mW (H k) k n).1 (mA.mW (H k) k n).2 ?_ u (fun y o=>?_)
   .unfold mA.take;rw[aJ6 F,aJ7 G,aJ6 (by rw[p];simp)]
   .obtain⟨Y,Z,T,U⟩:=im (r:=(H k).1) (m:=(H k).2) y o;obtain⟨_,P,z,_,_⟩:=b.cx G Q B;refine⟨T,by unfold PK;omega,?_⟩;have W:=b.row.core;have uE:zJ (H k).1 (H k).1.served.core.toNat=1:=by unfold zJ;rw[aJ7 ⟨z,P,U,by omega⟩]
    have p:=b.t1 (H k).1.served.core.toNat (by omega)
    have:=h.there (i:=(H k).1.served.core.toNat) (k:=k) (.inl (by grind))
    omega
  .have d:=b.aE4 (by omega);refine done ((H k).1.wait n,(H k).2) [] ?_ d (fun y o=>by cases o);unfold mA.take;grind
theorem mV.Xg (h:mV C H X V N) {l:Int} {j:Int->Int×Bool}:
  ∃u out e,hU C H l j=(u,out,e)/\mV C u X V (out++N)/\(∀x∈out,x.line=l/\PK x.kind)/\(∀k:Nat,(k:Int)≠l->u k=H k):=by
 unfold hU
 by_cases z:C.has l
 .rw[aJ7 z];obtain⟨k,d,B⟩:∃k:Nat,k<C.lines/\l=(k:Int):=⟨l.toNat,by unfold bP.has at z;omega,by unfold bP.has at z;omega⟩;subst B;rw[Int.toNat_natCast];have f:=h.line k d;have same:aS H k (H k)=H:=by funext i;unfold aS;grind
  unfold mA.begin
  by_cases p:(H k).1.busy=true
  .grind
  .rw[aJ6 p];have p:(H k).1.busy=false:=by simpa using p
   cases hw:(H k).1.waits with
   |nil=>refine⟨_,_,_,rfl,?_,(fun x g=>by cases g),fun i e=>cF (by omega)⟩;grind
   |cons n w=>
    have D:=f.row.waits n (by rw[hw];simp)
    have v:=f.begun (j:=j) p hw
    have b:=jh (r:=(H k).1.next w) (line:=k) (m:=(H k).2) (j:=j) D.2.2 f.row.owner
    obtain⟨I,P,_⟩:=f.idle p
    refine⟨_,_,_,rfl,?_,fun x g=>⟨(b x g).1,.inr (b x g).2.1⟩,fun i e=>cF (by omega)⟩
    refine h.fM (A:=(Row.begun ((H k).1.next w) k (H k).2 n j).2) d ?_ (fun l F=>cF F) (fun _ _=>rfl) (fun _ _=>rfl) (fun y J=>?_) (fun _ _=>rfl) (fun _ g=>g) h.uH h.room h.new
    .rw[fE];exact v
    .obtain⟨L,O,t⟩:=b y J;refine⟨L,.inr O,?_⟩;rcases t with⟨t,E⟩|⟨a,o,t,E⟩
     .rw[t];exact h.waiter d (by rw[hw];simp) E
     .have q:=f.c1 a o (by have:=f.t3 a o;rw[fZ I o] at this;simp at this;omega) (by have:=f.t4 a o;unfold wF at this;grind);have G:HH k (H k).1 (cls C X k) (F0 k N) a≠0:=by
       rcases E with e|e;have:=q.1.2 e;omega;have:=q.2.2 e;omega
      have:=h.aD8 d o G
      omega
 grind
theorem mV.Ak (h:mV C H X V N) {l:Int}:mV C (jA C H l).1 X V N:=by
 unfold jA;by_cases b:C.has l;rw[aJ7 b];obtain⟨k,a,d⟩:∃k:Nat,k<C.lines/\l=(k:Int):=⟨l.toNat,by unfold bP.has at b;omega,by unfold bP.has at b;omega⟩;subst d;rw[Int.toNat_natCast];refine h.fM (A:=[]) a ?_ (fun l e=>cF e) (fun _ _=>rfl) (fun _ _=>rfl) (fun y g=>by cases g) (fun _ _=>rfl) (fun _ f=>f) h.uH h.room h.new;show Inv k (aS H k _ k).1 (aS H k _ k).2 _ _ _;rw[fE];exact(h.line k a).aAb;grind
theorem mV.reads (h:mV C H X V N) {i:Nat} (b:i<4) (d:(i:Int)<C.aE) {l a f:Int}:mV C H (aS X i (mL C (X i) l a f)) V N:=
 ⟨fun k e=>by rw[qR (aAc (h.uH i b))];exact h.line k e,qW h (G9 (h.uH i b)),qP h (jd (h.uH i b) (h.room i b)),uI h d,h.nb⟩
theorem mV.writes (h:mV C H X V N) {i:Nat} (b:i<4) (f:(i:Int)<C.aE) {k:Nat} {a o v:Int} (j:lZ C (X i).S k a o true=0):
  mV C H (aS X i (iU C (X i) k a o v)) (aS V k (nf (V k) a v)) N:=by
 have d:k<C.lines:=by have:=(qJ j).1;omega
 obtain⟨q,t⟩:=tf (v:=v) (h.uH i b) j
 have g:=h.line k d
 have u:(cls C X k i).d=V k:=by
  have w:(cls C X k i).st≠0:=by grind
  have:=g.c3 i b (by unfold HH uE;grind);unfold sP at this;grind
 refine h.fM (A:=[]) d ?_ (fun _ _=>rfl) (fun l p=>cF p) (fun l e=>qR (Wp (by omega))) (fun y B=>by cases B) (fun _ _=>rfl) (fun _ z=>z) (qW h (Mt (h.uH i b))) (qP h (W5 (h.uH i b) (h.room i b))) (uI h f)
 rw[fE,yA,t]
 have:(cK C.aI.toNat (X i) k).d=V k:=u
 rw[this]
 exact g.wrote b q
theorem mV.value (h:mV C H X V N) {i:Nat} (d:i<4) {k:Nat} (f:k<C.lines) (a:(bB C.aI.toNat (X i).S k).2=0):(bB C.aI.toNat (X i).S k).1.d=V k:=by
 have b:(cls C X k i).st≠0:=by
  show(cK C.aI.toNat (X i) k).st≠0;rw[Hg,aJ7 a];have:=sK (h.uH i d).aI a;omega
 have:=(h.line k f).c3 i d (by unfold HH uE;grind);unfold sP at this;rw[aJ7 b] at this;have e:(cls C X k i).d=(bB C.aI.toNat (X i).S k).1.d:=by show(cK C.aI.toNat (X i) k).d=_;rw[ze,aJ7 a]
 rw[<-e];exact this
theorem mV.asks (h:mV C H X V N) {i:Nat} (p:i<4) (d:(i:Int)<C.aE) {k:Nat} {w:Int} {wr:Bool} (f:k<C.lines) (a:(X i).Dm=false) (c3:¬((X i).sE=true/\(X i).gl=k))
  (v:¬((bB C.aI.toNat (X i).S k).2=0/\lH (bB C.aI.toNat (X i).S k).1.st wr=true)) (b:(bB C.aI.toNat (X i).S k).2=0\/((X i).S (setOf C.aI.toNat k)).length<C.ways.toNat):
  mV C H (aS X i {X i with al:=(k:Int),aw:=wr,Dm:=true}) V (⟨if wr then 2 else 1,i,k,w,0,0,0,false,0⟩::N):=by
 have g:=h.uH i p
 have u:=h.room i p
 have D:=h.line k f
 have E:(cls C X k i).pB=false:=by show(cK _ (X i) k).pB=_;unfold cK;rw[a];rfl
 have o:(cls C X k i).gi=false:=by
  show(cK _ (X i) k).gi=_;unfold cK;simp only[Bool.and_eq_false_iff,decide_eq_false_iff_not];by_cases e:(X i).sE=true;exact .inr (fun j=>c3 ⟨e,j⟩);exact .inl (by simpa using e)
 have t:if wr=true then(cls C X k i).st≠2/\(cls C X k i).st≠4 else(cls C X k i).st=0:=by
  have z:(cls C X k i).st=if(bB C.aI.toNat (X i).S k).2=0 then(bB C.aI.toNat (X i).S k).1.st else 0:=rfl
  rw[z];by_cases q:(bB C.aI.toNat (X i).S k).2=0;rw[aJ7 q];have B:=sK g.aI q;have:¬lH (bB C.aI.toNat (X i).S k).1.st wr=true:=fun e=>v ⟨q,e⟩;unfold lH tP Ny at this;grind;grind
 refine h.fM (A:=[_]) f ?_ (fun _ _=>rfl) (fun _ _=>rfl) (fun l e=>?_) (fun y G=>?_) (fun _ _=>rfl) (fun _ F=>F) (qW h ⟨g.aI,g.back,g.pl⟩) (qP h ⟨fun _=>⟨⟨by grind,by grind⟩,b⟩,u.gl,u.bd⟩) (uI h d)
 .rw[yA];have j:cK C.aI.toNat {(X i) with al:=(k:Int),aw:=wr,Dm:=true} k={cK C.aI.toNat (X i) k with pB:=true,aw:=wr}:=by unfold cK;simp
  rw[j]
  exact D.asks p E o t ⟨rfl,rfl,rfl⟩
 .apply qR;unfold cK;have:decide ((k:Int)=(l:Int))=false:=decide_eq_false (by omega);simp[this,a]
 .rw[List.mem_singleton.1 G];refine⟨rfl,?_,by grind,d⟩;unfold PK;cases wr<;>simp
theorem mV.yX (h:mV C H X V N) {i:Nat} (z:i<4) (g:(i:Int)<C.aE) {v:Int} {x:pI} (b:(X i).Dm=false) (f:(X i).sE=false) (q:bB C.aI.toNat (X i).S v=(x,0)):
  mV C H (aS X i {X i with S:=gE C.aI.toNat (X i).S v,gl:=v,gc:=x,sE:=true}) V (⟨3,i,v,x.w,0,x.d.1,x.d.2,jF x.st,0⟩::N):=by
 have p:=h.uH i z
 have E:=h.room i z
 have a:(bB C.aI.toNat (X i).S v).2=0:=by rw[q]
 have F:=(nO a).2
 have Q:=E.bd v a
 have u:=sK p.aI a
 rw[q] at u
 obtain⟨k,o,B⟩:∃k:Nat,k<C.lines/\v=(k:Int):=⟨v.toNat,by omega,by omega⟩
 subst B
 have I:=h.line k o
 have d:(cls C X k i).st=x.st:=by show(cK _ (X i) k).st=_;rw[Hg,aJ7 a,q]
 have D:(cls C X k i).d=x.d:=by show(cK _ (X i) k).d=_;rw[ze,aJ7 a,q]
 have J:(cls C X k i).pB=false:=by show(cK _ (X i) k).pB=_;unfold cK;rw[b];rfl
 have w:iG C {X i with S:=gE C.aI.toNat (X i).S (k:Int),gl:=(k:Int),gc:=x,sE:=true}:=by
  have g1:=pV (n:=C.aI.toNat) (no:=(k:Int)) p.aI;have g2:=Ba (no:=(k:Int)) p.pl;refine Good.mk g1 (fun _=>?_) g2;grind
 refine h.fM (A:=[_]) o ?_ (fun _ _=>rfl) (fun _ _=>rfl) (fun l e=>?_) (fun y P=>?_) (fun _ _=>rfl) (fun _ O=>O) (qW h w) (qP h ⟨(fun e=>by grind),fun _=>⟨by grind,by grind⟩,fun j L=>?_⟩) (uI h g)
 .rw[yA];have t:cK C.aI.toNat {(X i) with S:=gE C.aI.toNat (X i).S (k:Int),gl:=(k:Int),gc:=x,sE:=true} k=⟨0,(0,0),false,false,true,(cls C X k i).st,(cls C X k i).d⟩:=by
   rw[d,D];have:=Gg (n:=C.aI.toNat) p.aI F;unfold cK;simp[this,b]
  rw[t]
  exact I.yX z J (by grind) ⟨rfl,rfl,rfl,by rw[D],by rw[d]⟩ (.inr trivial)
 .apply qR;unfold cK;have G:¬((k:Int)=(l:Int)):=by omega
  simp only[kA (show(l:Int)≠(k:Int) by omega)]
  simp[G,f]
 .rw[List.mem_singleton.1 P];exact⟨rfl,by show PK 3;decide,by grind,g⟩
 .by_cases t:j=(k:Int)
  .omega
  .exact E.bd j (by rw[<-L];exact(congrArg Prod.snd (kA t)).symm)
theorem mV.aFd (h:mV C H X V N) (hC:C.Ok) {i:Nat} (p:i<4) (b:(i:Int)<C.aE) {l w:Int} {wr:Bool}:
  ∃f out e,want C i (X i) l w wr=(f,out,e)/\mV C H (aS X i f) V (out++N)/\(e≠0->f=X i/\out=[])/\∀x∈out,PK x.kind:=by
 have I:=h.uH i p
 have W:=h.room i p
 have Y:=(lF hC).2.2.1
 have same:∀e:Int,e≠0->∃f out G,((X i,[],e):gV×List aJ×Int)=(f,out,G)/\mV C H (aS X i f) V (out++N)/\(G≠0->f=X i/\out=[])/\∀x∈out,PK x.kind:=fun e T=>by
  refine⟨_,_,_,rfl,?_,fun _=>⟨rfl,rfl⟩,fun _ d=>by cases d⟩;have:aS X i (X i)=X:=by funext j;unfold aS;grind
  rw[this];exact h
 unfold want
 by_cases z:rS C l=false
 .simp_all
 rw[aJ6 z]
 by_cases c2:(X i).Dm=true
 .simp_all
 rw[aJ6 c2]
 by_cases c3:(X i).sE=true/\(X i).gl=l
 .simp_all
 rw[aJ6 c3]
 by_cases F:(bB C.aI.toNat (X i).S l).2=0/\lH (bB C.aI.toNat (X i).S l).1.st wr=true
 .simp_all
 rw[aJ6 F]
 have U:0<=l/\l<C.lines:=by unfold rS at z;simpa using z
 have a:(X i).Dm=false:=by simpa using c2
 obtain⟨k,q,D⟩:∃k:Nat,k<C.lines/\l=(k:Int):=⟨l.toNat,by omega,by omega⟩
 subst D
 unfold A5
 cases hv:yB C.aI.toNat C.ways.toNat (X i).S k with
 |none=>
  refine⟨_,_,_,rfl,?_,fun e=>absurd rfl e,fun x d=>?_⟩
  rotate_left
  .rw[List.mem_singleton.1 d];unfold PK;cases wr<;>simp
  refine h.asks p b q a c3 F ?_
  unfold yB at hv
  cases hge:Go.Ct.get (k:Int) ((X i).S (setOf C.aI.toNat k)) with
  |some x=>left;unfold bB;grind
  |none=>
   grind
 |some v=>
  unfold yB at hv
  cases hge:Go.Ct.get (k:Int) ((X i).S (setOf C.aI.toNat k)) with
  |some x=>grind
  |none=>
   rw[hge] at hv
   dsimp only at hv
   split at hv
   .cases hv
   have P:v∈(X i).S (setOf C.aI.toNat k):=List.mem_of_getElem? hv
   have u:=I.pl _ v P
   have y:bB C.aI.toNat (X i).S v.1=(v.2,0):=by
    unfold bB;rw[aaa,u.2];cases hL:(X i).S (setOf C.aI.toNat k) with
    |nil=>grind
    |cons t L=>
     rw[hL] at hv;have:t=v:=by simpa using hv
     subst this;unfold Go.Ct.get;grind
   dsimp only
   by_cases c5:(X i).sE=true
   .simp_all
   rw[aJ6 c5,y,aJ6 (by simp)]
   refine⟨_,_,_,rfl,?_,fun e=>absurd rfl e,fun x d=>?_⟩
   rotate_left
   .rcases List.mem_cons.1 d with rfl|d
    .show PK 3;decide
    .rw[List.mem_singleton.1 d];unfold PK;cases wr<;>simp
   have o:(X i).sE=false:=by simpa using c5
   have E:v.1≠(k:Int):=fun e=>by
    have:Go.Ct.get (k:Int) ((X i).S (setOf C.aI.toNat k))=some v.2:=by
     have:=(nO (by rw[y])).1;grind
    grind
   have O:=h.yX p b a o y
   have R:(bB C.aI.toNat (gE C.aI.toNat (X i).S v.1) k)=bB C.aI.toNat (X i).S k:=kA (fun e=>E e.symm)
   have Q:(bB C.aI.toNat (X i).S k).2≠0:=by unfold bB;grind
   have g:=av (n:=C.aI.toNat) (S:=(X i).S) (no:=v.1) (by rw[y])
   rw[u.2] at g
   have B:=O.asks (i:=i) (w:=w) (wr:=wr) p b q (by rw[fE];exact a) (by rw[fE];grind) (by rw[fE];grind)
    (by rw[fE];right;exact Nat.lt_of_lt_of_le g (I.aI _).len)
   rw[fE] at B
   have J:∀s1 s2:gV,aS (aS X i s1) i s2=aS X i s2:=fun s1 s2=>by
    funext j;by_cases e:j=i;subst e;rw[fE,fE];rw[cF e,cF e,cF e]
   rw[J] at B
   exact B.perm (List.Perm.swap _ _ _)
end
end Go.Pc
namespace Go.Mc
open Go Go.Ab Go.Hm Go.At Go.Is Go.Ct Go.Nt
section
variable {C:bP}
theorem N5 {α:Type} {f a:Nat->List α} {l:List α} {k:Nat}:∀{n:Nat},(∀i,i≠k->a i=f i)->(a k).Perm (l++f k)->k<n->((List.range n).flatMap a).Perm (l++(List.range n).flatMap f):=by
 intro n;induction n with
 |zero=>intro _ _ h;omega
 |succ n j=>
  intro b g o;rw[List.range_succ,List.flatMap_append,List.flatMap_append,List.flatMap_singleton,List.flatMap_singleton];by_cases e:n=k;subst e;have:(List.range n).flatMap a=(List.range n).flatMap f:=by
   have:∀m,m<=n->(List.range m).flatMap a=(List.range m).flatMap f:=by
    intro m;induction m with
    |zero=>intro _;rfl
    |succ m d=>
     intro p;rw[List.range_succ,List.flatMap_append,List.flatMap_append,d (by omega),List.flatMap_singleton,List.flatMap_singleton,b m (by omega)]
   grind
  rw[this];refine(List.Perm.append_left _ g).trans ?_;rw[<-List.append_assoc,<-List.append_assoc];exact List.Perm.append_right _ List.perm_append_comm;rw[b n e];have:=j b g (by omega);rw[<-List.append_assoc];exact List.Perm.append_right _ this
def rO (C:bP) (F:gL):List aJ:=(List.range C.aE.toNat).flatMap fun c=>(List.range 4).flatMap fun w=>F c w
theorem set_perm {F:gL} {c w:Nat} {l l':List aJ} (hc:(c:Int)<C.aE) (b:w<4) (h:l'.Perm (l++F c w)):(rO C (F.set c w l')).Perm (l++rO C F):=by
 unfold rO;refine N5 (k:=c) (fun i a=>?_) ?_ (by omega);unfold gL.set;simp[a];refine N5 (k:=w) (fun i a=>?_) ?_ b;unfold gL.set;simp[a];unfold gL.set;grind
theorem zT {n:aJ} (h:Nu n.kind):fX n<4:=by
 unfold Nu at h;unfold fX;rcases k14 (k:=n.kind.toNat) (by omega) with e|e|e|e|e|e|e|e|e|e|e|e|e|e<;>rw[e]<;>decide
theorem mc:∀{l:List aJ} {F a:gL},(∀n∈l,Nt.pG C n=0)->gL.yX C.depth F l=some a->(rO C a).Perm (l++rO C F):=by
 intro l;induction l with
 |nil=>intro F a _ h;cases h;grind
 |cons n l f=>
  intro F a b h;unfold gL.yX at h;split at h;have e:=Ey (b n List.mem_cons_self);have g:=f (fun k d=>b k (List.mem_cons_of_mem _ d)) h;have j:(rO C (F.put n)).Perm ([n]++rO C F):=set_perm (by omega) (zT e.1) List.perm_append_comm;grind;cases h
theorem vU {F:gL} {l:List aJ} (h:(F.send C l).2=0):(rO C (F.send C l).1).Perm (l++rO C F)/\∀n∈l,Nt.pG C n=0:=by
 unfold gL.send at h ⊢;split at h;grind;rename_i a;rw[aJ6 a];have a:cQ C l=0:=by simpa using a
 split at h;rename_i d b;exact⟨mc (Eh a) (by rw[b]),Eh a⟩;cases h
theorem Ud {α:Type}:∀{l:List α} {i:Nat} (h:i<l.length),l.Perm (l[i]::l.eraseIdx i)
 |[],_,h=>by cases h
 |a::l,0,_=>List.Perm.refl _
 |a::l,i+1,h=>by
  have:=Ud (l:=l) (i:=i) (by simpa using h);exact(List.Perm.cons a this).trans (List.Perm.swap _ _ _)
theorem ic {F:gL} {a b c:Int} (h:(F.take C a b c).2.2=0):(rO C F).Perm ((F.take C a b c).2.1::rO C (F.take C a b c).1):=by
 unfold gL.take at h ⊢;by_cases g:(0<=a/\a<C.aE)/\(0<=b/\b<4);rw[aJ6 (fun h=>h g)] at h ⊢;dsimp only at h ⊢;by_cases d:F a.toNat b.toNat=[];rw[aJ7 d] at h;cases h;rw[aJ6 d];have o:0<(F a.toNat b.toNat).length:=List.length_pos_iff.2 d;have f:(c % ((F a.toNat b.toNat).length:Int)).toNat<(F a.toNat b.toNat).length:=by
  have j:=Int.emod_nonneg c (show((F a.toNat b.toNat).length:Int)≠0 by omega);have k:=Int.emod_lt_of_pos c (show(0:Int)<((F a.toNat b.toNat).length:Int) by omega);omega
 dsimp only;generalize(c % ((F a.toNat b.toNat).length:Int)).toNat=i at f ⊢;rw[List.getD_eq_getElem?_getD,List.getElem?_eq_getElem f];dsimp only[Option.getD];have e:F=(F.set a.toNat b.toNat ((F a.toNat b.toNat).eraseIdx i)).set a.toNat b.toNat (F a.toNat b.toNat):=by
  funext x y;unfold gL.set;by_cases e:x=a.toNat/\y=b.toNat;rw[aJ7 e,e.1,e.2];rw[aJ6 e,aJ6 e]
 have:=set_perm (C:=C) (F:=F.set a.toNat b.toNat ((F a.toNat b.toNat).eraseIdx i)) (c:=a.toNat) (w:=b.toNat) (l:=[(F a.toNat b.toNat)[i]]) (l':=F a.toNat b.toNat) (by omega) (by omega) (by
  have:(F.set a.toNat b.toNat ((F a.toNat b.toNat).eraseIdx i)) a.toNat b.toNat=(F a.toNat b.toNat).eraseIdx i:=by unfold gL.set;simp
  rw[this];exact Ud f)
 grind;grind
end
section
def Zd (n g a w:Int):Prop:=(iP n g a w).2.2.2=0/\((iP n g a w).2.2.1=false->(iP n g a w).1=iR n g/\a=g/4)
theorem Pu {es:List hZ}:(iC es).length=(es.length+3)/4+es.length:=by unfold iC;simp
theorem tj {es:List hZ} {j:Nat} (h:j<(es.length+3)/4):iO es (j:Int)=(Nj es j,0):=by
 unfold iO;rw[aJ7 (by rw[Pu];omega),Int.toNat_natCast];unfold iC;grind
theorem lz {es:List hZ} {g:Nat} (h:g<es.length):iO es (iR es.length g)=(Qt (es.getD g iI),0):=by
 have e:iR es.length g=(((es.length+3)/4+g:Nat):Int):=by unfold iR;omega
 unfold iO;rw[e,aJ7 (by rw[Pu];omega),Int.toNat_natCast];unfold iC;grind
theorem wg {es:List hZ} {j g:Nat} (h:F5 es j=true) (a:g<es.length) (b:g/4=j):es.getD g iI=⟨(es.getD (4*j) iI).owner,false⟩:=by
 unfold F5 at h;rw[List.all_eq_true] at h;have d:es.getD g iI∈(es.drop (4*j)).take 4:=by
  rw[List.getD_eq_getElem?_getD,List.getElem?_eq_getElem a];refine List.mem_of_getElem? (i:=g - 4*j) ?_;grind
 grind
theorem w9 {es:List hZ} (b:∀x∈es,0<=x.owner/\x.owner<=4) {g:Nat} (a:g<es.length):0<=(es.getD g iI).owner/\(es.getD g iI).owner<=4:=by
 grind
theorem ig {es:List hZ} {g:Nat} {a:Int} (B:es.length<=16) (u:∀x∈es,0<=x.owner/\x.owner<=4) (q:g<es.length) (v:a=(g:Int)/4\/a=iR es.length g):
  (iO es a).2=0/\Zd es.length g a (iO es a).1/\((iP es.length g a (iO es a).1).2.2.1=true->(iP es.length g a (iO es a).1).2.1=es.getD g iI):=by
 have b:¬¬((1<=(es.length:Int)/\(es.length:Int)<=16)/\(0<=(g:Int)/\(g:Int)<es.length)):=by omega
 have w:(g:Int)/4≠iR es.length g:=by unfold iR;omega
 rcases v with rfl|rfl
 .have e:(g:Int)/4=((g/4:Nat):Int):=by omega
  have f:=tj (es:=es) (j:=g/4) (by omega)
  rw[<-e] at f
  rw[f]
  refine⟨rfl,?_⟩
  unfold Zd iP
  rw[aJ6 b,aJ7 rfl]
  dsimp only
  have z:(g:Int)/4*4=((4*(g/4):Nat):Int):=by omega
  unfold Nj
  by_cases d:F5 es (g/4)=true
  .rw[aJ7 d];have t:=w9 u (show 4*(g/4)<es.length by omega);have y:=wg d q rfl;rw[aaa,aJ7 ⟨by omega,by unfold Al;grind⟩];grind
  grind
 .have f:=lz q;rw[f];refine⟨rfl,?_⟩;unfold Zd iP;rw[aJ6 b,aJ6 (fun h=>w h.symm),aJ7 rfl];dsimp only;have t:=w9 u q;generalize D:es.getD g iI=x at t ⊢;obtain⟨o,k⟩:=x;cases k with
  |true=>
   have p:Qt ⟨o,true⟩=o+8:=rfl
   rw[p,aJ6 (by unfold Al;grind),aJ7 ⟨by grind,by unfold Al;grind⟩]
   grind
  |false=>
   have p:Qt ⟨o,false⟩=o:=rfl
   rw[p,aJ7 (by unfold Al;grind)]
   grind
end
section
def cw (i:Nat) (N:List aJ):Nat:=N.countP fun n=>decide (n.core=(i:Int)/\(n.kind=6\/n.kind=12))
def cd (i g:Nat) (N:List aJ):Nat:=N.countP fun n=>decide (n.core=(i:Int)/\n.no=(g:Int)/\(n.kind=13\/n.kind=7))
def iS (N:List aJ) (i g:Nat):Prop:=∃n∈N,n.kind=13/\n.core=(i:Int)/\n.no=(g:Int)
def Cc (m:Mon) (g i:Nat):Nat:=match m.runs g with
 |some r=>(r.waits i).toNat
 |none=>0
structure iM (C:bP) (K:Nat->kE) (m:Mon) (N:List aJ):Prop where
 cw:∀i:Nat,(i:Int)<C.aE->cw i N=(K i).kY.toNat
 no:∀n∈N,n.kind=6\/n.kind=12->n.no=(K n.core.toNat).at'
 pl:∀i:Nat,(i:Int)<C.aE->(K i).kY=true->(K i).at'=(K i).bK/4\/(K i).at'=iR C.aN (K i).bK
 word:∀n∈N,n.kind=12->Zd C.aN (K n.core.toNat).bK (K n.core.toNat).at' n.d0/\((K n.core.toNat).mX=false->(iP C.aN (K n.core.toNat).bK (K n.core.toNat).at' n.d0).2.2.1=true->(iP C.aN (K n.core.toNat).bK (K n.core.toNat).at' n.d0).2.1.locked=false->
  (iP C.aN (K n.core.toNat).bK (K n.core.toNat).at' n.d0).2.1.owner=(m.kT (K n.core.toNat).bK).owner/\((m.kT (K n.core.toNat).bK).locked=true->iS N n.core.toNat (K n.core.toNat).bK.toNat))
 known:∀i:Nat,(i:Int)<C.aE->∀x∈(K i).known,(0<=x.1/\x.1<C.aN)/\x.2=(m.kT x.1).owner/\((m.kT x.1).locked=true->iS N i x.1.toNat)
 nd:∀i:Nat,(i:Int)<C.aE->((K i).known.map (·.1)).Nodup/\((K i).kY=true->(K i).bK∉(K i).known.map (·.1))
 gr:∀i:Nat,(i:Int)<C.aE->0<=(K i).bK/\(K i).bK<C.aN
 lock:∀g:Nat,(g:Int)<C.aN->((m.kT g).locked=true↔(m.runs g).isSome=true)
 cd:∀g i:Nat,(i:Int)<C.aE->cd i g N=Cc m g i
 nb:∀n∈N,KK n.kind->(0<=n.core/\n.core<C.aE)/\(n.kind=13\/n.kind=7->0<=n.no)
 ph:∀g r,m.runs g=some r->(r.phase=2↔r.none=true)/\∀i:Nat,C.aE<=(i:Int)->r.waits i=false
variable {C:bP} {K:Nat->kE} {m:Mon} {N N':List aJ} {n:aJ}
theorem nX {i:Nat}:cw i (n::N)=cw i N+if n.core=(i:Int)/\(n.kind=6\/n.kind=12) then 1 else 0:=by
 unfold cw;grind
theorem nE {i g:Nat}:cd i g (n::N)=cd i g N+if n.core=(i:Int)/\n.no=(g:Int)/\(n.kind=13\/n.kind=7) then 1 else 0:=by
 unfold cd;grind
theorem aCe {i:Nat}:cw i (N++N')=cw i N+cw i N':=List.countP_append
theorem tq {i g:Nat}:cd i g (N++N')=cd i g N+cd i g N':=List.countP_append
theorem Gn {i g:Nat} (h:iS N i g) (e:∀x∈N,x.kind=13->x∈N'):iS N' i g:=by
 obtain⟨x,b,a,d⟩:=h;exact⟨x,e x b a,a,d⟩
theorem zq {i g:Nat} (h:iS N i g):0<cd i g N:=by
 obtain⟨x,a,b,d,e⟩:=h;exact List.countP_pos_iff.2 ⟨x,a,decide_eq_true ⟨d,e,.inl b⟩⟩
theorem Wy {i:Nat} (h:n∈N) (hc:n.core=(i:Int)) (a:n.kind=6\/n.kind=12):0<cw i N:=List.countP_pos_iff.2 ⟨n,h,decide_eq_true ⟨hc,a⟩⟩
theorem iM.perm (h:iM C K m N) (p:N.Perm N'):iM C K m N':=by
 have em:∀x,x∈N'↔x∈N:=fun x=>p.symm.mem_iff;have b:∀i,Mc.cw i N'=Mc.cw i N:=fun i=>(p.countP_eq _).symm;have d:∀i g,Mc.cd i g N'=Mc.cd i g N:=fun i g=>(p.countP_eq _).symm;have a:∀i g,iS N' i g↔iS N i g:=fun i g=>by unfold iS;simp only[em]
 constructor;simp only[b];exact h.cw;simp only[em];exact h.no;exact h.pl;simp only[em,a];exact h.word;simp only[a];exact h.known;exact h.nd;exact h.gr;exact h.lock;simp only[d];exact h.cd;simp only[em];exact h.nb;exact h.ph
theorem iM.skip (h:iM C K m (n::N)) (f:¬KK n.kind):iM C K m N:=by
 unfold KK at f;have p:∀i,Mc.cw i N=Mc.cw i (n::N):=fun i=>by rw[nX,aaa];rfl
 have q:∀i g,Mc.cd i g N=Mc.cd i g (n::N):=fun i g=>by rw[nE,aaa];rfl
 have o:∀i g,iS (n::N) i g->iS N i g:=fun i g ⟨x,j,t,u⟩=>by
  rcases List.mem_cons.1 j with rfl|j;omega;exact⟨x,j,t,u⟩
 have em:∀x,x∈N->x∈n::N:=fun x=>List.mem_cons_of_mem _;constructor;simp only[p];exact h.cw;exact fun x e=>h.no x (em x e);exact h.pl;exact fun x e f=>⟨(h.word x (em x e) f).1,fun a b c=>⟨((h.word x (em x e) f).2 a b c).1,fun d=>o _ _ (((h.word x (em x e) f).2 a b c).2 d)⟩⟩;exact fun i k x e=>⟨(h.known i k x e).1,(h.known i k x e).2.1,fun d=>o _ _ ((h.known i k x e).2.2 d)⟩;exact h.nd;exact h.gr;exact h.lock;simp only[q];exact h.cd;exact fun x e=>h.nb x (em x e);exact h.ph
theorem iM.add (h:iM C K m N) (f:¬KK n.kind):iM C K m (n::N):=by
 unfold KK at f;have t:∀i,Mc.cw i (n::N)=Mc.cw i N:=fun i=>by rw[nX,aaa];rfl
 have u:∀i g,Mc.cd i g (n::N)=Mc.cd i g N:=fun i g=>by rw[nE,aaa];rfl
 have q:∀i g,iS N i g->iS (n::N) i g:=fun i g v=>Gn v fun x e _=>List.mem_cons_of_mem _ e;have em:∀x,x∈n::N->KK x.kind->x∈N:=fun x e p=>by
  rcases List.mem_cons.1 e with rfl|e;exact absurd p (by unfold KK;exact f);exact e
 have j:∀{k:Int},k=6\/k=12->KK k:=fun h=>by unfold KK;omega
 constructor;simp only[t];exact h.cw;exact fun x e f=>h.no x (em x e (j f)) f;exact h.pl;exact fun x e f=>⟨(h.word x (em x e (j (.inr f))) f).1,fun a b c=>⟨((h.word x (em x e (j (.inr f))) f).2 a b c).1,fun d=>q _ _ (((h.word x (em x e (j (.inr f))) f).2 a b c).2 d)⟩⟩;exact fun i o x e=>⟨(h.known i o x e).1,(h.known i o x e).2.1,fun d=>q _ _ ((h.known i o x e).2.2 d)⟩;exact h.nd;exact h.gr;exact h.lock;simp only[u];exact h.cd;exact fun x e f=>h.nb x (em x e f) f;exact h.ph
theorem iM.more (h:iM C K m N):∀{l:List aJ},(∀x∈l,¬KK x.kind)->iM C K m (l++N)
 |[],_=>h
 |_::_,a=>(iM.more h fun x b=>a x (List.mem_cons_of_mem _ b)).add (a _ List.mem_cons_self)
theorem iM.new {es:List hZ} (d:(es.length:Int)=C.aN) (a:1<=C.aN) (b:∀x∈es,x.locked=false):iM C (fun _=>Ha) ⟨es,fun _=>none⟩ []:=by
 constructor;case cw=>exact fun _ _=>rfl
 case no=>grind
 case pl=>exact fun _ _ h=>by cases h
 case word=>grind
 case known=>exact fun _ _ _ h=>by cases h
 case nd=>exact fun _ _=>⟨List.nodup_nil,fun h=>by cases h⟩
 case gr=>exact fun _ _=>⟨by decide,by show(0:Int)<C.aN;omega⟩
 case lock=>
  intro g a;unfold Mon.kT;grind
 case cd=>exact fun _ _ _=>rfl
 case nb=>grind
 grind
end
section
variable {C:bP} {K:Nat->kE} {m:Mon} {N N':List aJ} {n:aJ}
theorem Ew {i:Nat} (h:n.core=(i:Int)):n.core.toNat=i:=by omega
theorem iM.walk {i:Nat} {g:Int} (h:iM C K m N) (G:(i:Int)<C.aE) (u:((K i).begin C g).2.2=0):
  iM C (aS K i ((K i).begin C g).1) m (dP 6 i ((K i).begin C g).2.1::N):=by
 unfold kE.begin at u ⊢
 by_cases B:0<=g/\g<C.aN
 rotate_left
 .rw[aJ7 B] at u;cases u
 rw[aJ6 (fun e=>e B)] at u ⊢
 by_cases k:(jT (K i).known g).isSome=true
 .grind
 rw[aJ6 k] at u ⊢
 by_cases z:(K i).kY=true
 .grind
 rw[aJ6 z] at u ⊢
 dsimp only
 have z:(K i).kY=false:=by simpa using z
 have v:=h.cw i G
 rw[z] at v
 have w:∀x∈N,x.kind=6\/x.kind=12->x.core.toNat≠i:=fun x f k e=>by
  have P:=(h.nb x f (by unfold KK;omega)).1;have:=Wy (i:=i) f (by omega) k;grind
 have J:∀I y,iS N I y->iS (dP 6 i (g/4)::N) I y:=fun i g O=>Gn O fun x f _=>List.mem_cons_of_mem _ f
 have q:aS K i ((K i).start g) i=(K i).start g:=cJ
 have t:∀{j:Nat},j≠i->aS K i ((K i).start g) j=K j:=fun e=>cF e
 have p:(dP 6 (i:Int) (g/4)).core.toNat=i:=Int.toNat_natCast i
 constructor
 case cw=>
  intro j o
  rw[nX]
  by_cases e:j=i
  .subst e;rw[q,v,aJ7 ⟨rfl,.inl rfl⟩];rfl
  .rw[t e,aJ6 (fun E=>e (by grind))];exact h.cw j o
 case no=>
  intro x f k
  rcases List.mem_cons.1 f with rfl|f
  .rw[p,q];rfl
  .rw[t (w x f k)];exact h.no x f k
 case pl=>
  intro j o
  by_cases e:j=i
  .subst e;rw[q];exact fun _=> .inl rfl
  .rw[t e];exact h.pl j o
 case word=>
  intro x f k
  rcases List.mem_cons.1 f with rfl|f
  .exact absurd (show(6:Int)=12 from k) (by decide)
  .rw[t (w x f (.inr k))];have:=h.word x f k;exact⟨this.1,fun a b c=>⟨(this.2 a b c).1,fun d=>J _ _ ((this.2 a b c).2 d)⟩⟩
 case known=>
  intro j o x f
  have f:x∈(K j).known:=by
   by_cases e:j=i;subst e;rw[q] at f;exact f;grind
  have:=h.known j o x f
  grind
 case nd=>
  intro j o
  by_cases e:j=i
  .subst e;rw[q];refine⟨(h.nd j o).1,fun _ L=>k ?_⟩;obtain⟨x,f,D⟩:=List.mem_map.1 L;unfold jT;rw[Option.isSome_map,List.find?_isSome];exact⟨x,f,decide_eq_true D⟩
  .rw[t e];exact h.nd j o
 case gr=>
  intro j o
  by_cases e:j=i
  .subst e;rw[q];exact B
  .rw[t e];exact h.gr j o
 case lock=>exact h.lock
 case cd=>
  intro y j o
  rw[nE,aJ6 (fun E=>by rcases E.2.2 with F|F<;>exact absurd (show(6:Int)=_ from F) (by decide))]
  exact h.cd y j o
 case nb=>
  intro x f k
  rcases List.mem_cons.1 f with rfl|f
  .exact⟨⟨by show(0:Int)<=i;omega,G⟩,fun e=>by rcases e with e|e<;>exact absurd (show(6:Int)=_ from e) (by decide)⟩
  .exact h.nb x f k
 case ph=>exact h.ph
theorem iM.alone {i:Nat} (h:iM C K m (n::N)) (j:(i:Int)<C.aE) (hc:n.core=(i:Int)) (b:n.kind=6\/n.kind=12):(K i).kY=true/\Mc.cw i N=0/\∀x∈N,x.kind=6\/x.kind=12->x.core.toNat≠i:=by
 have a:=h.cw i j;rw[nX,aJ7 ⟨hc,b⟩] at a;have d:(K i).kY=true:=by grind
 rw[d] at a;have g:Mc.cw i N=0:=by simpa using a
 refine⟨d,g,fun x f b e=>?_⟩;have k:=(h.nb x (List.mem_cons_of_mem _ f) (by unfold KK;omega)).1;have:=Wy (i:=i) f (by omega) b;omega
theorem iM.asked {i:Nat} (h:iM C K m (n::N)) (J:(m.dQ.length:Int)=C.aN) (o:m.dQ.length<=16) (O:∀x∈m.dQ,0<=x.owner/\x.owner<=4) (y:(i:Int)<C.aE) (hc:n.core=(i:Int)) (f:n.kind=6):
  (iO m.dQ n.no).2=0/\iM C K m (sG n.core (iO m.dQ n.no).1 n.no::N):=by
 obtain⟨Q,T,L⟩:=h.alone y hc (.inl f)
 have P:=h.pl i y Q
 have w:=h.gr i y
 have z:=h.no n List.mem_cons_self (.inl f)
 rw[Ew hc] at z
 obtain⟨g,B⟩:=Int.eq_ofNat_of_zero_le w.1
 have v:g<m.dQ.length:=by omega
 have p:=ig (es:=m.dQ) (g:=g) (a:=n.no) o O v (by grind)
 rw[J,<-B] at p
 refine⟨p.1,?_⟩
 have t:(sG n.core (iO m.dQ n.no).1 n.no).core=n.core:=rfl
 have F:∀{D q:Nat},iS (n::N) D q->iS (sG n.core (iO m.dQ n.no).1 n.no::N) D q:=fun⟨x,u,G,I⟩=>by
  rcases List.mem_cons.1 u with rfl|u;omega;exact⟨x,List.mem_cons_of_mem _ u,G,I⟩
 have E:(sG n.core (iO m.dQ n.no).1 n.no).kind=12:=rfl
 constructor
 case cw=>
  intro j k
  have:=h.cw j k
  rw[nX] at this ⊢
  grind
 case no=>
  intro x b f
  rcases List.mem_cons.1 b with rfl|b
  .rw[t,Ew hc];exact z
  .exact h.no x (List.mem_cons_of_mem _ b) f
 case pl=>exact h.pl
 case word=>
  intro x b f
  rcases List.mem_cons.1 b with rfl|b
  .rw[t,Ew hc];show Zd _ _ _ (iO m.dQ n.no).1/\((K i).mX=false->(iP _ _ _ (iO m.dQ n.no).1).2.2.1=true->(iP _ _ _ (iO m.dQ n.no).1).2.1.locked=false->(iP _ _ _ (iO m.dQ n.no).1).2.1.owner=_/\_);rw[<-z];have R:m.dQ.getD g iI=m.kT (K i).bK:=by unfold Mon.kT;rw[B];rfl
   grind
  .have:=h.word x (List.mem_cons_of_mem _ b) f;grind
 case known=>exact fun j k x b=>⟨(h.known j k x b).1,(h.known j k x b).2.1,fun d=>F ((h.known j k x b).2.2 d)⟩
 case nd=>exact h.nd
 case gr=>exact h.gr
 case lock=>exact h.lock
 case cd=>
  intro q j k
  have:=h.cd q j k
  rw[nE,aaa] at this
  rw[nE,aJ6 (by rw[E];omega)]
  exact this
 case nb=>
  intro x b f
  rcases List.mem_cons.1 b with rfl|b
  .exact⟨by rw[t];omega,fun e=>by rw[E] at e;omega⟩
  .exact h.nb x (List.mem_cons_of_mem _ b) f
 case ph=>exact h.ph
theorem iM.again {i:Nat} {c:kE} {a:Int} (h:iM C K m (n::N)) (F:(i:Int)<C.aE) (hc:n.core=(i:Int)) (f:n.kind=12)
  (E:c.kY=true) (k:c.bK=(K i).bK) (v:c.known=(K i).known) (u:c.at'=a) (L:a=(K i).bK/4\/a=iR C.aN (K i).bK):
  iM C (aS K i c) m (dP 6 n.core a::N):=by
 obtain⟨G,J,o⟩:=h.alone F hc (.inr f)
 have y:(dP 6 n.core a).core=n.core:=rfl
 have w:(dP 6 n.core a).kind=6:=rfl
 have I:∀{z p:Nat},iS (n::N) z p->iS (dP 6 n.core a::N) z p:=fun⟨x,t,B,D⟩=>by
  rcases List.mem_cons.1 t with rfl|t;omega;exact⟨x,List.mem_cons_of_mem _ t,B,D⟩
 have q:aS K i c i=c:=cJ
 have g:∀{j:Nat},j≠i->aS K i c j=K j:=fun e=>cF e
 constructor
 case cw=>
  intro j d
  rw[nX,y,w]
  by_cases e:j=i
  .grind
  .have:=h.cw j d;rw[nX,aaa] at this;grind
 case no=>
  intro x b f
  rcases List.mem_cons.1 b with rfl|b
  .rw[y,Ew hc,q,u];rfl
  .rw[g (o x b f)];exact h.no x (List.mem_cons_of_mem _ b) f
 case pl=>
  intro j d
  by_cases e:j=i
  .grind
  .rw[g e];exact h.pl j d
 case word=>
  intro x b f
  rcases List.mem_cons.1 b with rfl|b
  .rw[w] at f;omega
  .rw[g (o x b (.inr f))];have:=h.word x (List.mem_cons_of_mem _ b) f;grind
 case known=>
  intro j d x b
  have b:x∈(K j).known:=by
   by_cases e:j=i;grind;grind
  have:=h.known j d x b
  grind
 case nd=>
  intro j d
  by_cases e:j=i
  .subst e;rw[q,v,k];exact⟨(h.nd j d).1,fun _=>(h.nd j d).2 G⟩
  .rw[g e];exact h.nd j d
 case gr=>
  intro j d
  by_cases e:j=i
  .subst e;rw[q,k];exact h.gr j d
  .rw[g e];exact h.gr j d
 case lock=>exact h.lock
 case cd=>
  intro p j d
  have:=h.cd p j d
  rw[nE,aaa] at this
  rw[nE,aJ6 (by rw[w];omega)]
  exact this
 case nb=>
  intro x b f
  rcases List.mem_cons.1 b with rfl|b
  .grind
  .exact h.nb x (List.mem_cons_of_mem _ b) f
 case ph=>exact h.ph
theorem iM.pk {i:Nat} {o:Int} {d:Nat} (h:iM C K m (n::N)) (D:(i:Int)<C.aE) (hc:n.core=(i:Int)) (g:n.kind=12) (B:1<=C.aN)
  (u:o=(m.kT (K i).bK).owner/\((m.kT (K i).bK).locked=true->iS (n::N) i (K i).bK.toNat)):
  iM C (aS K i ⟨false,0,0,false,(K i).known.drop d++[((K i).bK,o)]⟩) m N:=by
 obtain⟨F,E,k⟩:=h.alone D hc (.inr g)
 have w:∀{v p:Nat},iS (n::N) v p->iS N v p:=fun⟨x,q,y,z⟩=>by
  rcases List.mem_cons.1 q with rfl|q;omega;exact⟨x,q,y,z⟩
 have t:∀c:kE,aS K i c i=c:=fun _=>cJ
 have f:∀{j:Nat} {c:kE},j≠i->aS K i c j=K j:=fun e=>cF e
 have em:∀x,x∈N->x∈n::N:=fun x=>List.mem_cons_of_mem _
 constructor
 case cw=>
  intro j b
  by_cases e:j=i
  .grind
  .have:=h.cw j b;rw[nX,aaa] at this;rw[f e];exact this
 case no=>exact fun x a g=>by rw[f (k x a g)];exact h.no x (em x a) g
 case pl=>
  intro j b
  by_cases e:j=i
  .grind
  .rw[f e];exact h.pl j b
 case word=>
  intro x a g
  rw[f (k x a (.inr g))]
  have:=h.word x (em x a) g
  grind
 case known=>
  intro j b x a
  by_cases e:j=i
  .subst e;rw[t] at a;rcases List.mem_append.1 a with a|a
   .have:=h.known j b x (List.mem_of_mem_drop a);grind
   .rw[List.mem_singleton.1 a];exact⟨h.gr j b,u.1,fun d=>w (u.2 d)⟩
  .rw[f e] at a;have:=h.known j b x a;grind
 case nd=>
  intro j b
  by_cases e:j=i
  .subst e;rw[t];refine⟨?_,fun e=>by cases e⟩;have q:=h.nd j b;grind
  .rw[f e];exact h.nd j b
 case gr=>
  intro j b
  by_cases e:j=i
  .grind
  .rw[f e];exact h.gr j b
 case lock=>exact h.lock
 case cd=>
  intro p j b
  have:=h.cd p j b
  rw[nE,aaa] at this
  exact this
 case nb=>exact fun x a=>h.nb x (em x a)
 case ph=>exact h.ph
theorem iM.walked {i:Nat} (h:iM C K m (n::N)) (g:(i:Int)<C.aE) (hc:n.core=(i:Int)) (b:n.kind=12) (j:1<=C.aN):
  ((K i).walked C n.no n.d0).2.2.2=0/\iM C (aS K i ((K i).walked C n.no n.d0).1) m ((if((K i).walked C n.no n.d0).2.2.1 then [] else [dP 6 n.core ((K i).walked C n.no n.d0).2.1])++N):=by
 obtain⟨o,v,u⟩:=h.alone g hc (.inr b)
 have k:=h.no n List.mem_cons_self (.inr b)
 have a:=h.word n List.mem_cons_self b
 rw[Ew hc] at k a
 unfold kE.walked
 rw[aJ6 (by rw[o];simp),aJ6 (by rw[k];simp)]
 cases hst:(K i).mX with
 |true=>
  rw[aJ7 rfl]
  exact⟨rfl,h.again g hc b o rfl rfl rfl (.inl rfl)⟩
 |false=>
  rw[aJ6 (by simp),k]
  dsimp only
  rw[k] at*
  rw[aJ6 (by rw[a.1.1];simp)]
  by_cases p:(iP C.aN (K i).bK (K i).at' n.d0).2.2.1=true/\(iP C.aN (K i).bK (K i).at' n.d0).2.1.locked=true
  .rw[aJ7 p];exact⟨rfl,h.again (c:=(K i).goto ((K i).bK/4)) g hc b o rfl rfl rfl (.inl rfl)⟩
  .rw[aJ6 p];by_cases f:(iP C.aN (K i).bK (K i).at' n.d0).2.2.1=false
   .rw[aJ7 f];exact⟨rfl,h.again (c:=(K i).goto _) g hc b o rfl rfl rfl (.inr (a.1.2 f).1)⟩
   .rw[aJ6 f];have f:(iP C.aN (K i).bK (K i).at' n.d0).2.2.1=true:=by simpa using f
    refine⟨rfl,?_⟩
    have t:(iP C.aN (K i).bK (K i).at' n.d0).2.1.locked=false:=by
     cases e:(iP C.aN (K i).bK (K i).at' n.d0).2.1.locked with
     |true=>exact absurd ⟨f,e⟩ p
     |false=>rfl
    have q:=a.2 hst f t
    by_cases d:((K i).known.length:Int)>=C.entries
    .have e:((K i).A8 C ((K i).bK,(iP C.aN (K i).bK (K i).at' n.d0).2.1.owner)).done=⟨false,0,0,false,(K i).known.drop 1++[((K i).bK,(iP C.aN (K i).bK (K i).at' n.d0).2.1.owner)]⟩:=by
      unfold kE.A8 kE.done;rw[aJ7 d]
     rw[e];exact h.pk g hc b j q
    .have e:((K i).A8 C ((K i).bK,(iP C.aN (K i).bK (K i).at' n.d0).2.1.owner)).done=⟨false,0,0,false,(K i).known.drop 0++[((K i).bK,(iP C.aN (K i).bK (K i).at' n.d0).2.1.owner)]⟩:=by
      unfold kE.A8 kE.done;rw[aJ6 d];rfl
     rw[e];exact h.pk g hc b j q
end
section
variable {C:bP} {K:Nat->kE} {m:Mon} {N N':List aJ} {n:aJ}
theorem Ib {m:Mon} {g:Nat} {x:hZ} {k:Int} (b:0<=k) (a:g<m.dQ.length):(m.pZ g x).kT k=if k=g then x else m.kT k:=by
 unfold Mon.kT Mon.pZ;dsimp only;rw[List.getD_eq_getElem?_getD,List.getElem?_set,List.getD_eq_getElem?_getD];by_cases e:k=(g:Int);rw[aac,aac,aJ7 e];rfl;rw[aaa,aJ6 e]
theorem iM.dropped {i:Nat} (h:iM C K m (n::N)) (O:(i:Int)<C.aE) (hc:n.core=(i:Int)) (G:n.kind=13) (I:0<=n.no/\n.no<C.aN):
  ((K i).drop C n.no).2=0/\iM C (aS K i ((K i).drop C n.no).1) m (dP 7 n.core n.no::N):=by
 unfold kE.drop
 rw[aaa]
 refine⟨rfl,?_⟩
 dsimp only
 obtain⟨g,hg⟩:=Int.eq_ofNat_of_zero_le I.1
 have ec:(dP 7 n.core n.no).core=n.core:=rfl
 have eo:(dP 7 n.core n.no).no=n.no:=rfl
 have L:(dP 7 n.core n.no).kind=7:=rfl
 generalize z:({(K i) with known:=(K i).known.filter (fun x=> !decide (n.no= -1\/x.1=n.no)),mX:=(K i).mX||((K i).kY&&decide (n.no= -1\/(K i).bK=n.no))}:kE)=c
 have q:c.kY=(K i).kY:=by rw[<-z]
 have D:c.bK=(K i).bK:=by rw[<-z]
 have B:c.at'=(K i).at':=by rw[<-z]
 have F:c.mX=false->(K i).mX=false/\((K i).kY=true->(K i).bK≠n.no):=by
  grind
 have E:∀x,x∈c.known↔x∈(K i).known/\x.1≠n.no:=by
  grind
 have p:(c.known.map (·.1)).Sublist ((K i).known.map (·.1)):=by
  rw[<-z];exact List.Sublist.map _ List.filter_sublist
 have P:∀{J v:Nat},¬(J=i/\(v:Int)=n.no)->iS (n::N) J v->iS (dP 7 n.core n.no::N) J v:=fun Y ⟨x,y,Q,R,T⟩=>by
  rcases List.mem_cons.1 y with rfl|y;grind;exact⟨x,List.mem_cons_of_mem _ y,Q,R,T⟩
 have t:aS K i c i=c:=cJ
 have u:∀{j:Nat},j≠i->aS K i c j=K j:=fun e=>cF e
 have em:∀x,x∈N->x∈n::N:=fun x=>List.mem_cons_of_mem _
 have U:=h.gr i O
 constructor
 case cw=>
  intro j k
  have:=h.cw j k
  rw[nX,aaa] at this
  rw[nX,aJ6 (by rw[L];omega),this]
  grind
 case no=>
  intro x f G
  rcases List.mem_cons.1 f with rfl|f
  .rw[L] at G;omega
  .have:=h.no x (em x f) G;by_cases e:x.core.toNat=i
   .rw[e] at this ⊢;rw[t,B];exact this
   .rw[u e];exact this
 case pl=>
  intro j k
  by_cases e:j=i
  .subst e;rw[t,q,B,D];exact h.pl j k
  .rw[u e];exact h.pl j k
 case word=>
  intro x f o
  rcases List.mem_cons.1 f with rfl|f
  .rw[L] at o;omega
  .have:=h.word x (em x f) o;by_cases e:x.core.toNat=i
   .rw[e] at this ⊢;rw[t,B,D];refine⟨this.1,fun a b c=>?_⟩;have Z:(K i).kY=true:=by
     have hb:=(h.nb x (em x f) (by unfold KK;omega)).1;have y:=h.cw i O;have:=Wy (i:=i) (em x f) (by omega) (.inr o);grind
    exact⟨(this.2 (F a).1 b c).1,fun d=>P (fun e2=>(F a).2 Z (by omega)) ((this.2 (F a).1 b c).2 d)⟩
   grind
 case known=>
  intro j k x f
  by_cases e:j=i
  .subst e;rw[t] at f;have f:=(E x).1 f;have:=h.known j k x f.1;grind
  .rw[u e] at f;have:=h.known j k x f;grind
 case nd=>
  intro j k
  by_cases e:j=i
  .subst e;rw[t,q,D];exact⟨(h.nd j k).1.sublist p,fun w W=>(h.nd j k).2 w (p.mem W)⟩
  .rw[u e];exact h.nd j k
 case gr=>
  intro j k
  by_cases e:j=i
  .grind
  .rw[u e];exact h.gr j k
 case lock=>exact h.lock
 case cd=>
  intro v j k
  have:=h.cd v j k
  rw[nE] at this ⊢
  grind
 case nb=>
  intro x f o
  rcases List.mem_cons.1 f with rfl|f
  .grind
  .exact h.nb x (em x f) o
 case ph=>exact h.ph
theorem Dj {m:Mon} {g a i:Nat} {x:Option Mc.jE}:Cc (m.cR g x) a i=if a=g then(match x with|some r=>(r.waits i).toNat|none=>0) else Cc m a i:=by
 unfold Cc Mon.cR aS;grind
theorem iM.heard {i g:Nat} (hC:C.Ok) (h:iM C K m (n::N)) (F:iA C m) (R:(i:Int)<C.aE) (hc:n.core=(i:Int)) (U:n.kind=7) (q:n.no=(g:Int)):
  ∃r,m.runs g=some r/\r.phase=1/\r.waits i=true/\m.dropped C.aE n.no n.core=(m.cR g (some (r.heard i).gZ),(r.heard i).none,0)/\iM C K (m.cR g (some (r.heard i).gZ)) N:=by
 have a:=h.cd g i R
 rw[nE,aJ7 ⟨hc,q,.inr U⟩] at a
 unfold Cc at a
 have T:i<4:=by have:=hC.1;omega
 cases hr:m.runs g with
 |none=>rw[hr] at a;simp at a
 |some r=>
  rw[hr] at a
  dsimp only at a
  have D:r.waits i=true:=by
   cases e:r.waits i with
   |true=>rfl
   |false=>rw[e] at a;simp at a
  rw[D] at a
  have O:Mc.cd i g N=0:=by simpa using a
  have B:=h.ph g r hr
  have w:=F.run g r hr
  have f:r.none=false:=by
   have:i=0\/i=1\/i=2\/i=3:=by omega
   unfold jE.none;rcases this with rfl|rfl|rfl|rfl<;>rw[D]<;>simp
  have z:r.phase=1:=by
   rcases w.2.2.1 with e|e;exact e;have:=B.1.1 e;rw[f] at this;cases this
  have E:m.has n.no:=by
   unfold Mon.has;have:=F.len;omega
  have G:m.run n.no=some r:=by unfold Mon.run;rw[aac,q,Int.toNat_natCast,hr]
  have t:(r.heard i).gZ.waits=gO r.waits i false:=rfl
  have y:(r.heard i).gZ.none=(r.heard i).none:=rfl
  refine⟨r,rfl,z,D,?_,?_⟩
  .unfold Mon.dropped;grind
  have Y:∀{I d:Nat},iS (n::N) I d->iS N I d:=fun⟨x,a,P,Q⟩=>by
   rcases List.mem_cons.1 a with rfl|a;omega;exact⟨x,a,P,Q⟩
  have em:∀x,x∈N->x∈n::N:=fun x=>List.mem_cons_of_mem _
  have L:∀k,(m.cR g (some (r.heard i).gZ)).kT k=m.kT k:=fun _=>rfl
  constructor
  case cw=>
   intro j p
   have:=h.cw j p
   rw[nX,aaa] at this
   exact this
  case no=>exact fun x o=>h.no x (em x o)
  case pl=>exact h.pl
  case word=>
   intro x o v
   have:=h.word x (em x o) v
   grind
  case known=>
   intro j p x o
   have:=h.known j p x o
   grind
  case nd=>exact h.nd
  case gr=>exact h.gr
  case lock=>
   intro d u
   rw[L,h.lock d u]
   unfold Mon.cR aS
   grind
  case cd=>
   intro d j p
   have:=h.cd d j p
   rw[nE] at this
   rw[Dj]
   by_cases e:d=g
   .subst e;rw[aJ7 rfl];dsimp only;rw[t];by_cases J:j=i
    .subst J;rw[O];unfold gO;rw[aJ7 rfl];rfl
    .rw[aaa] at this;unfold gO;rw[aaa];unfold Cc at this;grind
   grind
  case nb=>exact fun x o=>h.nb x (em x o)
  case ph=>
   intro d W b
   unfold Mon.cR aS at b
   dsimp only at b
   by_cases e:d=g
   .rw[aJ7 e] at b;cases b;refine⟨?_,fun j p=>?_⟩
    .rw[y];show(if(r.heard i).none=true then(2:Int) else r.phase)=2↔_;grind
    .rw[t];unfold gO;grind
   .rw[aJ6 e] at b;exact h.ph d W b
theorem Bq {aE g:Int} {x:aJ} (h:x∈tL aE g):x.kind=13/\x.no=g/\∃j:Nat,(j:Int)<aE/\x=dP 13 j g:=by
 unfold tL at h;obtain⟨j,a,rfl⟩:=List.mem_map.1 h;have:=List.mem_range.1 a;exact⟨rfl,rfl,j,by omega,rfl⟩
theorem oq {aE:Int} {g a i:Nat} (f:(i:Int)<aE):cd i a (tL aE g)=if a=g then 1 else 0:=by
 unfold tL;obtain⟨n,b⟩:∃n:Nat,aE.toNat=n/\i<n:=⟨aE.toNat,rfl,by omega⟩;rw[b.1];have e:∀n:Nat,cd i a ((List.range n).map fun j:Nat=>dP 13 j g)=if i<n/\a=g then 1 else 0:=by
  intro n;induction n with
  |zero=>rfl
  |succ n d=>
   rw[List.range_succ,List.map_append,tq,d];show _+cd i a (dP 13 n g::[])=_;rw[nE];show _+(0+if(n:Int)=(i:Int)/\(g:Int)=(a:Int)/\((13:Int)=13\/(13:Int)=7) then 1 else 0)=_;grind
 grind
theorem iM.calls {a:Mc.Ask} {g:Nat} {j:Int×Bool×Int} (hC:C.Ok) (h:iM C K m N) (R:(m.dQ.length:Int)=C.aN) (Q:(g:Int)<C.aN) (J:m.runs g=none):
  iM C K ((m.pZ g ⟨(m.kT g).owner,true⟩).cR g (some (a.run C.aE j))) (tL C.aE g++N):=by
 have G:C.aE<=4:=hC.1.2
 have L:∀{p f:Nat},iS N p f->iS (tL C.aE g++N) p f:=fun I=>Gn I fun x b _=>List.mem_append.2 (.inr b)
 have O:∀p:Nat,(p:Int)<C.aE->iS (tL C.aE g++N) p g:=fun p F=>⟨dP 13 p g,List.mem_append.2 (.inl (List.mem_map.2 ⟨p,List.mem_range.2 (by omega),rfl⟩)),rfl,rfl,rfl⟩
 have em:∀x,x∈tL C.aE g++N->x.kind≠13->x∈N:=fun x b o=>by
  rcases List.mem_append.1 b with b|b;exact absurd (Bq b).1 o;exact b
 have v:g<m.dQ.length:=by omega
 have y:∀k:Int,0<=k->((m.pZ g ⟨(m.kT g).owner,true⟩).cR g (some (a.run C.aE j))).kT k=if k=g then⟨(m.kT g).owner,true⟩ else m.kT k:=fun k o=>Ib o v
 have D:∀x∈N,x.kind=6\/x.kind=12->(x.core.toNat:Int)<C.aE:=fun x b o=>by have:=(h.nb x b (by unfold KK;omega)).1;omega
 constructor
 case cw=>
  intro i q
  rw[aCe]
  have:Mc.cw i (tL C.aE g)=0:=by
   refine List.countP_eq_zero.2 fun x b=>?_;have:=(Bq b).1;grind
  rw[this,Nat.zero_add];exact h.cw i q
 case no=>exact fun x b o=>h.no x (em x b (by omega)) o
 case pl=>exact h.pl
 case word=>
  intro x b o
  have b:=em x b (by omega)
  have t:=D x b (.inr o)
  have:=h.word x b o
  have E:=h.gr _ t
  grind
 case known=>
  intro i q x b
  have:=h.known i q x b
  grind
 case nd=>exact h.nd
 case gr=>exact h.gr
 case lock=>
  intro f u
  rw[y _ (by omega)]
  show _↔(aS m.runs g _ f).isSome=true
  unfold aS
  by_cases e:f=g
  .subst e;simp
  .rw[aaa,aJ6 e];exact h.lock f u
 case cd=>
  intro f i q
  rw[tq,Dj,oq q,h.cd f i q]
  by_cases e:f=g
  .subst e;rw[aJ7 rfl,aJ7 rfl];have:Cc m f i=0:=by unfold Cc;rw[J]
   rw[this]
   show 1+0=(decide ((i:Int)<C.aE)).toNat
   grind
  .rw[aJ6 e,aJ6 e,Nat.zero_add];rfl
 case nb=>
  intro x b o
  rcases List.mem_append.1 b with b|b
  .obtain⟨P,z,k,B,rfl⟩:=Bq b;exact⟨⟨by show(0:Int)<=k;omega,B⟩,fun _=>by rw[z];omega⟩
  .exact h.nb x b o
 case ph=>
  intro f w d
  have d:aS m.runs g (some (a.run C.aE j)) f=some w:=d
  unfold aS at d
  by_cases e:f=g
  .rw[aJ7 e] at d;cases d;refine⟨?_,fun i q=>decide_eq_false (by omega)⟩;show(1:Int)=2↔(!(decide (((0:Nat):Int)<C.aE)||_||_||_))=true;have:=hC.1.1;grind
  .rw[aJ6 e] at d;exact h.ph f w d
theorem iM.over {g:Nat} {r:Mc.jE} {o:Int} (hC:C.Ok) (h:iM C K m N) (P:(m.dQ.length:Int)=C.aN) (G:(g:Int)<C.aN) (z:m.runs g=some r) (y:r.phase=2):
  iM C K ((m.pZ g ⟨o,false⟩).cR g none) N/\(∀i:Nat,(i:Int)<C.aE->∀x∈(K i).known,x.1≠g):=by
 have u:g<m.dQ.length:=by omega
 have D:∀k:Int,0<=k->((m.pZ g ⟨o,false⟩).cR g none).kT k=if k=g then⟨o,false⟩ else m.kT k:=fun k p=>Ib p u
 have w:(m.kT g).locked=true:=(h.lock g G).2 (by rw[z];rfl)
 have j:=(h.ph g r z).1.1 y
 have L:∀i:Nat,(i:Int)<C.aE->r.waits i=false:=fun i d=>by
  have:i=0\/i=1\/i=2\/i=3:=by have:=hC.1;omega
  unfold jE.none at j;grind
 have J:∀i:Nat,(i:Int)<C.aE->¬iS N i g:=fun i d y=>by
  have O:=zq y;have E:=h.cd g i d;unfold Cc at E;grind
 have F:∀x∈N,x.kind=6\/x.kind=12->(x.core.toNat:Int)<C.aE:=fun x f p=>by have:=(h.nb x f (by unfold KK;omega)).1;omega
 have v:∀i:Nat,(i:Int)<C.aE->∀x∈(K i).known,x.1≠g:=fun i d x f e=>by
  have:=(h.known i d x f).2.2 (by rw[e];exact w);grind
 refine⟨?_,v⟩
 constructor
 case cw=>exact h.cw
 case no=>exact h.no
 case pl=>exact h.pl
 case word=>
  intro x f p
  have q:=F x f (.inr p)
  have:=h.word x f p
  have I:=h.gr _ q
  grind
 case known=>
  intro i d x f
  have:=h.known i d x f
  grind
 case nd=>exact h.nd
 case gr=>exact h.gr
 case lock=>
  intro b t
  rw[D _ (by omega)]
  show _↔(aS m.runs g none b).isSome=true
  unfold aS
  by_cases e:b=g
  .subst e;simp
  .rw[aaa,aJ6 e];exact h.lock b t
 case cd=>
  intro b i d
  rw[Dj,h.cd b i d]
  by_cases e:b=g
  .subst e;rw[aJ7 rfl];unfold Cc;grind
  .rw[aJ6 e];rfl
 case nb=>exact h.nb
 case ph=>
  intro b B a
  have a:aS m.runs g none b=some B:=a
  unfold aS at a
  by_cases e:b=g
  .grind
  .rw[aJ6 e] at a;exact h.ph b B a
end
section
variable {A:AM} {i:Nat}
theorem nF {B:AM} {s:aK} {a:Int} (b:B.aC=aS A.aC i s) (_hc:B.cfg=A.cfg):B.fM i a={B with aC:=aS A.aC i (s.fM a)}:=by
 unfold AM.fM AM.iZ;rw[b,cJ,tV]
theorem yE {s:aK} {x:Ins} (h:aK.next? s=some x):s.over=false/\x=kI s.prog s.at':=by
 unfold aK.next? at h;grind
theorem uJ {b:Bool} (a:(i:Int)<A.cfg.aE) (d:(A.aC i).over=false):
  A.step i b=((A.gI i (kI (A.aC i).prog (A.aC i).at') b).1.fM i (A.gI i (kI (A.aC i).prog (A.aC i).at') b).2.2.2.2,
      ⟨i,(A.aC i).at',(kI (A.aC i).prog (A.aC i).at').op,(A.aC i).world,(A.gI i (kI (A.aC i).prog (A.aC i).at') b).2.1,(A.gI i (kI (A.aC i).prog (A.aC i).at') b).2.2.1,(A.gI i (kI (A.aC i).prog (A.aC i).at') b).2.2.2.1⟩,0):=by
 unfold AM.step
 grind
theorem sM {s:aK} (h:A.aC i=s):A.aC=aS A.aC i s:=by subst h;exact qF.symm
theorem A7 {r:aK×Ev} {b:Bool} (j:(i:Int)<A.cfg.aE) (h:aK.gU (A.aC i) i=some r):A.step i b=({A with aC:=aS A.aC i r.1},r.2,0)/\dJ r.2=false:=by
 unfold aK.gU at h;cases hn:aK.next? (A.aC i) with
 |none=>rw[hn] at h;cases h
 |some x=>
  rw[hn] at h;dsimp only at h;obtain⟨k,o⟩:=yE hn;rw[uJ j k,<-o];unfold AM.gI;split at h;rename_i e;cases h;rw[aJ7 e];exact⟨by dsimp only;rw[nF (A:=A) (B:=A.iZ i _) (s:=(A.aC i).cR x.a x.b) rfl rfl];rfl,rfl⟩;rename_i d;rw[aJ6 d];split at h;rename_i e;cases h;rw[aJ7 e];exact⟨by dsimp only;rw[nF (A:=A) (B:=A.iZ i _) (s:=(A.aC i).cR x.a _) rfl rfl];rfl,rfl⟩;rename_i f;rw[aJ6 f];split at h;rename_i e;cases h;rw[aaa,aaa,aaa,aaa,aaa];exact⟨by dsimp only;rw[nF (sM rfl) rfl];rfl,rfl⟩;rename_i p;split at h;rename_i e;rw[aaa,aJ7 e];split at h;rename_i a;cases h;rw[aJ7 a];exact⟨by dsimp only;rw[nF (A:=A) (B:=A.iZ i _) (s:=(A.aC i).Qv x.a) rfl rfl];rfl,rfl⟩;rename_i a;cases h;rw[aJ6 a];exact⟨by dsimp only;rw[nF (sM rfl) rfl];rfl,rfl⟩;rename_i a;split at h;rename_i e;cases h;rw[aaa,aJ6 a,aaa,aJ7 e];exact⟨by dsimp only;rw[nF (sM rfl) rfl];rfl,rfl⟩;rename_i g;split at h;rename_i e;cases h;rw[aaa,aJ6 a,aaa,aJ6 g,aJ7 e];exact⟨by dsimp only;rw[nF (sM rfl) rfl];rfl,rfl⟩;cases h
theorem K9 {s:aK} {a:Acc} (h:aK.iF s=some a):∃x,aK.next? s=some x/\(x.op=3\/x.op=4\/x.op=5)/\a=⟨s.cB x.b.toNat,decide (x.op≠3),decide (x.op≠4),if x.op=3 then 0 else s.cB x.a.toNat⟩:=by
 unfold aK.iF at h;cases hn:aK.next? s with
 |none=>rw[hn] at h;cases h
 |some x=>
  rw[hn] at h;dsimp only at h;unfold xN at h;split at h;rename_i e;cases h;exact⟨x,rfl,of_decide_eq_true e,rfl⟩;cases h
theorem Kc {a:Acc} {b:Bool} (j:(i:Int)<A.cfg.aE) (h:aK.iF (A.aC i)=some a) (k:A.may (A.aC i).world a.word=false):
  A.step i b=({A with aC:=aS A.aC i (aK.bI (A.aC i) i 0 19).1},(aK.bI (A.aC i) i 0 19).2.1,0)/\(aK.bI (A.aC i) i 0 19).2.2=0/\dJ (aK.bI (A.aC i) i 0 19).2.1=false:=by
 obtain⟨x,f,e,rfl⟩:=K9 h
 obtain⟨o,p⟩:=yE f
 have g:aK.bI (A.aC i) i 0 19=((A.aC i).fM ((A.aC i).at'+1),aK.ev (A.aC i) i x ((A.aC i).cB x.b.toNat) 0 19,0):=by
  unfold aK.bI;rw[f];dsimp only;rw[aaa,aJ7 (by unfold xN;grind),aaa,aJ7 rfl]
 rw[g,uJ j o,<-p]
 unfold AM.gI
 have d:A.access i x=(A,0,19):=by unfold AM.access;rw[aJ6 (by rw[k];simp)]
 rw[aaa,aaa,aJ7 e,d]
 exact⟨by dsimp only;rw[nF (sM rfl) rfl];rfl,rfl,rfl⟩
theorem O9 {a:Acc} {b:Bool} {v:Int} (t:(i:Int)<A.cfg.aE) (q:aK.iF (A.aC i)=some a) (k:A.may (A.aC i).world a.word=true) (d:v=if a.read then rU A.mem a.word.toNat else 0):
  A.step i b=({A with aC:=aS A.aC i (aK.bI (A.aC i) i v 0).1,mem:=if a.write then vW A.mem a.word.toNat a.value else A.mem},(aK.bI (A.aC i) i v 0).2.1,0)/\(aK.bI (A.aC i) i v 0).2.2=0/\dJ (aK.bI (A.aC i) i v 0).2.1=false:=by
 obtain⟨x,o,g,rfl⟩:=K9 q
 obtain⟨u,w⟩:=yE o
 have p:aK.bI (A.aC i) i v 0=if x.op=4 then((A.aC i).fM ((A.aC i).at'+1),aK.ev (A.aC i) i x ((A.aC i).cB x.b.toNat) ((A.aC i).cB x.a.toNat) 0,0) else(((A.aC i).cR x.a v).fM ((A.aC i).at'+1),aK.ev (A.aC i) i x ((A.aC i).cB x.b.toNat) v 0,0):=by
  unfold aK.bI;rw[o];dsimp only;rw[aaa,aJ7 (by unfold xN;grind),aaa,aaa]
 rw[p,uJ t u,<-w]
 unfold AM.gI
 rw[aaa,aaa,aJ7 g]
 unfold AM.access
 dsimp only at k d
 rw[aJ7 k]
 rcases g with e|e|e
 .rw[aJ7 e,aaa];have d:v=rU A.mem ((A.aC i).cB x.b.toNat).toNat:=by rw[d,aJ7 (by rw[e];rfl)]
  have h:decide (x.op≠3)=false:=by rw[e];rfl
  subst d
  refine⟨?_,rfl,rfl⟩
  dsimp only
  rw[h]
  rw[nF (A:=A) (B:=A.iZ i _) (s:=(A.aC i).cR x.a _) rfl rfl];rfl
 .have h:decide (x.op≠3)=true:=by rw[e];rfl
  have f:¬x.op=3:=by omega
  refine⟨?_,by rw[aJ7 e],by rw[aJ7 e];rfl⟩
  rw[aJ6 f,aJ7 e,aJ7 e,h]
  dsimp only
  rw[nF (A:=A) (B:=A.iY (vW A.mem ((A.aC i).cB x.b.toNat).toNat ((A.aC i).cB x.a.toNat))) (sM rfl) rfl,aJ6 f];rfl
 .have h:decide (x.op≠3)=true:=by rw[e];rfl
  have f:¬x.op=3:=by omega
  have j:¬x.op=4:=by omega
  have d:v=rU A.mem ((A.aC i).cB x.b.toNat).toNat:=by rw[d,aJ7 (by rw[e];rfl)]
  subst d
  refine⟨?_,by rw[aJ6 j],by rw[aJ6 j];rfl⟩
  rw[aJ6 f,aJ6 j,aJ6 j,h]
  dsimp only
  rw[nF (A:=A) (B:=(A.iY (vW A.mem ((A.aC i).cB x.b.toNat).toNat ((A.aC i).cB x.a.toNat))).iZ i _) (s:=(A.aC i).cR x.a _) rfl rfl,aJ6 f];rfl
theorem Mz {s:aK} {a:Mc.Ask} (h:aK.sL s i=some a):∃x,aK.next? s=some x/\x.op=8/\a=⟨i,s.world,x.a,s.cB x.b.toNat,s.cB x.c.toNat⟩:=by
 unfold aK.sL at h;grind
theorem Qz {a:Mc.Ask} {e:Int} {B:AM} (k:(i:Int)<A.cfg.aE) (j:aK.sL (A.aC i) i=some a) (hc:A.call a.call a.world a.bK a.to (decide (e=17))=(B,e)):
  A.step i (decide (e=17))=({B with aC:=aS A.aC i (aK.bI (A.aC i) i 0 e).1},(aK.bI (A.aC i) i 0 e).2.1,0)/\(aK.bI (A.aC i) i 0 e).2.2=0/\dJ (aK.bI (A.aC i) i 0 e).2.1=decide (e=17):=by
 obtain⟨x,o,f,rfl⟩:=Mz j
 obtain⟨p,q⟩:=yE o
 have h:aK.bI (A.aC i) i 0 e=(((A.aC i).cR x.b e).fM ((A.aC i).at'+1),aK.ev (A.aC i) i x ((A.aC i).cB x.b.toNat) ((A.aC i).cB x.c.toNat) e,0):=by
  unfold aK.bI;grind
 rw[h,uJ k p,<-q]
 dsimp only at hc
 have d:=tI (m:=A) (c:=x.a) (w:=(A.aC i).world) (g:=(A.aC i).cB x.b.toNat) (t:=(A.aC i).cB x.c.toNat) (b:=decide (e=17))
 rw[hc] at d
 unfold AM.gI
 rw[aaa,aaa,aaa,aaa,aJ7 f,hc]
 refine⟨?_,rfl,rfl⟩
 dsimp only
 rw[nF (A:=A) (B:=B.iZ i _) (s:=(A.aC i).cR x.b e) (by show aS B.aC i _=_;rw[d.2.2]) d.1]
 rfl
theorem Oo:∀{l:List Ev} {A B:AM} {x:Ev} {k:Nat},dA A l k=(B,k+l.length,0)->oC B x=0->dA A (l++[x]) k=((B.step x.core (dJ x)).1,k+l.length+1,0)
 |[],A,B,x,k,h,a=>by
  have:A=B:=by cases h;rfl
  subst this;show dA A [x] k=_;unfold dA;rw[aJ6 (by rw[a];simp)];rfl
 |y::l,A,B,x,k,h,a=>by
  rw[List.cons_append];unfold dA at h ⊢;split at h;grind;rename_i b;rw[aJ6 b];rw[List.length_cons] at h ⊢;rw[show k+(l.length+1)=k+1+l.length by omega] at h ⊢;exact Oo h a
theorem aDn {x:Ev} {B:AM} (h:A.step x.core (dJ x)=(B,x,0)):oC A x=0:=by
 unfold oC;rw[h];simp
end
end Go.Mc
namespace Go.Pc
open Go Go.Ab Go.Hm Go.Ct
section
variable {l:Nat} {r:Row} {m V:Ln} {c:wh} {N:List aJ} {n:aJ}
structure Clean (r:Row):Prop where
 busy:r.busy=false
 owner:r.owner= -1
 sh:∀i,i<4->r.sh i=false
def I8 (r:Row):Prop:=(r.busy=true/\r.served.kind=0)\/∃x∈r.waits,x.kind=0
def J5 (r:Row):Prop:=I8 r\/Clean r
theorem J5.wait (h:J5 r):J5 (r.wait n):=by
 rcases h with(h|⟨x,a,k⟩)|h;exact .inl (.inl h);exact .inl (.inr ⟨x,List.mem_append.2 (.inl a),k⟩);exact .inr ⟨h.busy,h.owner,h.sh⟩
theorem Fu:I8 (r.wait (mS l)):= .inr ⟨mS l,List.mem_append.2 (.inr (by simp)),rfl⟩
theorem qU:(r.heard n).waits=r.waits:=by
 unfold Row.heard;split;rfl;split<;>split<;>rfl
theorem qV {line:Int} {d:Ln}:(r.eE line d).1.waits=r.waits:=by
 unfold Row.eE;grind
theorem J5.take (h:J5 r) (b:Inv l r m V c (n::N)) (_:1<=n.kind/\n.kind<=5):J5 (mA.take (r,m) l n).1.1:=by
 unfold mA.take;by_cases E:n.kind=4;rw[aJ7 E];obtain⟨v,J,T⟩:=b.uq E;rw[aJ6 (by show ¬(r.granted=false\/r.served.core≠n.core);rw[v];simp;exact J)];rcases h with(h|⟨x,D,k⟩)|h;exact absurd h.2 (b.kg v);exact .inl (.inr ⟨x,D,k⟩);have:=b.row.gb v;rw[h.busy] at this;cases this;rw[aJ6 E];by_cases p:n.kind=5;rw[aJ7 p];have G:=b.nc n (by simp);obtain⟨i,z,y,f⟩:=fO G.2;obtain⟨F,O,w,_,_⟩:=b.cx p z y;rw[aJ6 (by show ¬r.asked n.core.toNat=false;rw[f,F];simp)];obtain⟨_,L⟩:=b.mW p;show J5 (mA.mW (r,m) l n).1.1;have Q:(mA.mW (r,m) l n).1.1.waits=r.waits:=by
  unfold mA.mW Row.rest;dsimp only;split;split;exact qU;rw[qV];exact qU;exact qU
 rcases h with(h|⟨x,D,k⟩)|h;have g:=Dk b.row G.2 (by rw[f];exact F);have q:r.heard n=(r.eY n).leave n.core:=by unfold Row.heard;rw[aac]
 unfold mA.mW Row.rest;dsimp only;by_cases B:(r.heard n).quiet=true;rw[aJ7 B,aJ7 (by rw[yD];exact h.2)];right;have d:∀j:Nat,j<4->(r.heard n).sh j=false/\(r.heard n).owner≠(j:Int):=fun j I=>by
  have P:=b.k2 w O (by omega) j I (fun e=>by omega);have o:=fZ B I;have a:(r.heard n).asked j=gO r.asked n.core false j:=by rw[q];rfl
  have u:(r.heard n).sh j=gO r.sh n.core false j:=by rw[q];rfl
  have t:(r.heard n).owner=if r.owner=n.core then -1 else r.owner:=by rw[q];rfl
  rw[a] at o;rw[u,t];unfold gO at o ⊢;grind
 refine⟨rfl,?_,fun i z=>(d i z).1⟩;show(r.heard n).owner= -1;have W:=g.owner;have R:=d (r.heard n).owner.toNat;omega;rw[aJ6 B];left;left;exact⟨g.busy,by rw[yD];exact h.2⟩;exact .inl (.inr ⟨x,by rw[Q];exact D,k⟩);rw[h.busy] at w;cases w;rw[aJ6 p];exact h.wait
theorem J5.begun {w:List aJ} {j:Int->Int×Bool} (h:J5 r) (hb:r.busy=false) (t:r.waits=n::w) (q:Inv l r m V c N) (B:∀x,(j x).2=false):J5 (Row.begun (r.next w) l m n j).1.1:=by
 have d:n.kind≠0->J5 (r.next w):=fun y=>by
  rcases h with(h|⟨x,e,k⟩)|h;grind;rw[t] at e;rcases List.mem_cons.1 e with rfl|e;exact absurd k y;exact .inl (.inr ⟨x,e,k⟩);exact .inr ⟨h.busy,h.owner,h.sh⟩
 unfold Row.begun;by_cases u:n.kind=3;rw[aJ7 u];rcases d (by omega) with(h|⟨x,e,k⟩)|h;exact .inl (.inl h);exact .inl (.inr ⟨x,e,k⟩);refine .inr ⟨h.busy,?_,fun i o=>?_⟩;show(if(r.next w).owner=n.core then(-1:Int) else(r.next w).owner)= -1;split;rfl;exact h.owner;show gO (r.next w).sh n.core false i=false;unfold gO;split;rfl;exact h.sh i o;rw[aJ6 u];by_cases p:n.kind=1\/n.kind=2;grind;rw[aJ6 p];have v:=q.row.waits n (by rw[t];simp);by_cases g:(r.next w).first (-1)= -1
 rw[aJ7 g];have f:=Gk.1 g;have D:=q.row.owner;right;refine⟨hb,?_,fun i o=>(f i o (by omega)).1⟩;show r.owner= -1;have z:r.owner.toNat<4->((r.owner.toNat:Nat):Int)≠ -1->((r.owner.toNat:Nat):Int)≠r.owner:=fun a b=>(f r.owner.toNat a b).2;omega;rw[aJ6 g];exact .inl (.inl ⟨rfl,by show n.kind=0;omega⟩)
theorem Inv.clean (h:Inv l r m V c N) (hc:Clean r):(∀i,i<4->HH l r c N i=0)/\∀x∈N,x.kind≠8/\x.kind≠5/\x.kind≠11:=by
 obtain⟨p,t,_⟩:=h.idle hc.busy;have g:∀x∈N,x.kind≠8/\x.kind≠5/\x.kind≠11:=fun x o=>by
  have q:=h.nc x o;obtain⟨j,u,f,_⟩:=fO q.2;have d:=h.calm p o;exact⟨fun k=>h.no8 u (by unfold wF;rw[t];simp) o k f,d.1,d.2⟩
 refine⟨fun i a=>?_,g⟩;have b:=h.c1 i a (by have:=h.t3 i a;rw[fZ p a] at this;simp at this;omega) (by have:=h.t4 i a;unfold wF at this;grind);have v:0<=HH l r c N i:=by have:=h.uB i a;unfold HH uE;grind
 have d:HH l r c N i≠1:=fun e=>by have:=b.1.1 e;rw[hc.sh i a] at this;cases this
 have w:¬2<=HH l r c N i:=fun e=>by have:=b.2.1 e;rw[hc.owner] at this;omega
 omega
end
end Go.Pc
namespace Go.Mc
open Go Go.Ab Go.Hm Go.At Go.Is Go.Ct Go.Nt Go.Pc
section
abbrev tY (C:bP) (M:dB) (V:Nat->Ln):AM:=⟨C,M.aC,M.cE.dQ.map hZ.owner,V⟩
structure RX (C:bP) (A0:AM) (M:dB) (V:Nat->Ln):Prop where
 Nd:mV C M.home M.dG V (rO C M.kM)
 pG:iM C M.cQ M.cE (rO C M.kM)
 swp:∀g r,M.cE.runs g=some r->r.phase=2->J5 (M.home (g*2)).1/\J5 (M.home (g*2+1)).1
 ask:∀g r,M.cE.runs g=some r->aK.sL (M.aC r.core.toNat) r.core.toNat=some ⟨r.core,r.world,r.call,g,r.to⟩/\fL r.call r.world (M.cE.kT g).owner r.to=(r.then',r.jZ,0)
 log:dA A0 M.log 0=(tY C M V,M.log.length,0)
variable {C:bP} {N:Nat} {M M':dB} {V V':Nat->Ln} {A0:AM}
theorem Tu {x:Ev} {B:AM} (h:dA A0 M.log 0=(tY C M V,M.log.length,0)) (a:(tY C M V).step x.core (dJ x)=(B,x,0)):dA A0 (M.log++[x]) 0=(B,(M.log++[x]).length,0):=by
 have:=Oo (k:=0) (l:=M.log) (x:=x) (by rw[Nat.zero_add];exact h) (aDn a);grind
theorem ld (hC:C.Ok) (a:eI C N M) {i:Nat} (f:M.cE.calls i=false) {g:Nat} {r:Mc.jE} (b:M.cE.runs g=some r):r.core.toNat≠i:=fun e=>by
 have d:=(a.cE.run g r b).2.2.2.1;have:M.cE.calls i=true:=(Of hC a.cE).2 ⟨g,by unfold rc;grind⟩;grind
theorem RX.turns (hC:C.Ok) (o:eI C N M) (h:RX C A0 M V) {i:Nat} {s:aK} {v:Ev} {M1:dB} (q:M.cE.calls i=false)
  (j:M1.aC=aS M.aC i s) (e2:M1.log=M.log++[v]) (a:M1.cE=M.cE) (b:M1.home=M.home) (k:M1.cQ=M.cQ) (d:M1.kM=M.kM)
  (hc:mV C M.home M1.dG V' (rO C M.kM)) (p:v.core=i) (f:(tY C M V).step i (dJ v)=({tY C M V with aC:=aS M.aC i s,mem:=V'},v,0)):RX C A0 M1 V':=by
 constructor
 case Nd=>rw[b,d];exact hc
 case pG=>rw[a,k,d];exact h.pG
 case swp=>rw[a,b];exact h.swp
 case ask=>
  rw[a,j]
  intro g r e
  have:=ld hC o q e
  unfold aS
  rw[aJ6 this]
  exact h.ask g r e
 case log=>
  rw[<-p] at f
  have:=Tu h.log f
  grind
theorem RX.Ij (hC:C.Ok) (o:eI C N M) (h:RX C A0 M V) {i:Nat} {v code:Int} {b:Bool} {M1:dB} (q:M.cE.calls i=false)
  (e:M1.aC=M.aC) (e2:M1.log=M.log) (f:M1.cE=M.cE) (g:M1.home=M.home) (j:M1.cQ=M.cQ) (k:M1.kM=M.kM) (hc:mV C M.home M1.dG V' (rO C M.kM))
  (a:(tY C M V).step i b=({tY C M V with aC:=aS M.aC i (aK.bI (M.aC i) i v code).1,mem:=V'},(aK.bI (M.aC i) i v code).2.1,0)/\(aK.bI (M.aC i) i v code).2.2=0/\dJ (aK.bI (M.aC i) i v code).2.1=b):RX C A0 (M1.bI i v code).1 V':=by
 obtain⟨a,d,p⟩:=a
 unfold dB.bI
 dsimp only
 rw[e,aJ6 (by rw[d];simp)]
 exact h.turns (s:=(aK.bI (M.aC i) i v code).1) (v:=(aK.bI (M.aC i) i v code).2.1) hC o q (by grind) (by grind) f g j k hc (uR d) (by rw[p];exact a)
theorem pj {l:List (Int×Int)} {g o:Int} (h:jT l g=some o):(g,o)∈l:=by
 unfold jT at h;cases hf:l.find? (fun x=>decide (x.1=g)) with
 |none=>rw[hf] at h;cases h
 |some x=>
  grind
theorem Kd {es:List hZ} {g:Nat} (a:g<es.length):(es.map hZ.owner).getD g 0=(es.getD g iI).owner:=by
 grind
theorem RX.aI1 (h:RX C A0 M V) {out:List aJ} {X:Nat->gV} {M1:dB} (d:(rO C M1.kM).Perm (out++rO C M.kM)) (j:∀x∈out,¬KK x.kind)
  (e:M1.aC=M.aC) (e2:M1.log=M.log) (a:M1.cE=M.cE) (b:M1.home=M.home) (f:M1.cQ=M.cQ) (g:M1.dG=X) (hc:mV C M.home X V (out++rO C M.kM)):RX C A0 M1 V:=by
 constructor
 case Nd=>rw[b,g];exact hc.perm d.symm
 case pG=>rw[a,f];exact(h.pG.more j).perm d.symm
 case swp=>rw[a,b];exact h.swp
 case ask=>rw[a,e];exact h.ask
 case log=>rw[e2,h.log];grind
theorem aCp (e:eI C N M) (h:RX C A0 M V) {i:Nat} (f:(i:Int)<C.aE) {w o:Int} (j:0<=w/\w<C.lines*2) (_k:C.lines=(C.aN*2).toNat) (g:jT (M.cQ i).known (w/2/2)=some o) {world:Int}:
  (tY C M V).may world w=yV world o:=by
 have b:=h.pG.known i f _ (pj g)
 unfold AM.may
 rw[aJ7 j]
 have a:=e.cE.len
 show yV world ((M.cE.dQ.map hZ.owner).getD (w.toNat/4) 0)=_
 have d:o=(M.cE.kT (w/2/2)).owner:=b.2.1
 rw[Kd (by omega),d]
 unfold Mon.kT
 congr 4
 omega
theorem qo {n:Nat} {S:Nat->List Th} {l a:Int} {w:Bool} (h:Ct.mH n S l a w=true):(bB n S l).2=0:=by
 unfold Ct.mH at h;grind
theorem V0 {S:Nat->List Th} {l a b:Int} {w:Bool} (f:0<=l/\l<C.lines) (e:a=0\/a=1) (d:Ct.mH C.aI.toNat S l b w=true):lZ C S l a b w=0:=by
 unfold lZ;rw[aJ6 (by unfold rS;simp;omega),aaa,aaa,aJ6 (by rw[d];simp)]
theorem RX.gI (hC:C.Ok) (B:eI C N M) (h:RX C A0 M V) {i:Nat} {a:Acc} {o:Int} (p:(i:Int)<C.aE) (G:M.cE.calls i=false) (D:aK.iF (M.aC i)=some a)
  (I:0<=a.word/\a.word<C.lines*2) (E:(tY C M V).may (M.aC i).world a.word=true) (hc:Ct.mH C.aI.toNat (M.dG i).S (a.word/2) o a.write=true):
  ∃V',RX C A0 (M.gI C i (a.word/2) (a.word % 2) o a).1 V':=by
 have d:i<4:=by have:=hC.1;omega
 obtain⟨k,w⟩:=Int.eq_ofNat_of_zero_le (show 0<=a.word/2 by omega)
 have q:k<C.lines:=by omega
 have g:a.word % 2=0\/a.word % 2=1:=by omega
 have f:=qo hc
 rw[w] at f hc
 have y:=h.Nd.value d q f
 have z:a.word.toNat/2=k:=by omega
 have em:a.word.toNat % 2=0↔a.word % 2=0:=by omega
 have F:=O9 (A:=tY C M V) (i:=i) (a:=a) (b:=false) (v:=if a.read then Er C (M.dG i) k (a.word % 2) else 0) p D E (by
  unfold Er aFq rU;grind)
 have j:mV C M.home (aS M.dG i (if a.read then mL C (M.dG i) k (a.word % 2) o else M.dG i)) V (rO C M.kM):=by
  split;exact h.Nd.reads d p;rw[qF];exact h.Nd
 unfold dB.gI
 rw[w]
 dsimp only
 refine⟨if a.write then vW V a.word.toNat a.value else V,?_⟩
 refine h.Ij hC B (b:=false) (M1:=M.uG i _) G rfl rfl rfl rfl rfl rfl ?_ F
 show mV C M.home (aS M.dG i _) _ _
 cases hwr:a.write with
 |false=>simp only[Bool.false_eq_true,if_false];exact j
 |true=>
  simp only[if_true]
  rw[hwr] at hc
  have t:=Le hc
  have u:lZ C (aS M.dG i (if a.read then mL C (M.dG i) k (a.word % 2) o else M.dG i) i).S k (a.word % 2) o true=0:=by
   rw[Ab.cJ];refine V0 (by omega) g ?_;split;unfold mL;rw[aJ7 (V0 (by omega) g t)];dsimp only;unfold Ct.mH at hc ⊢;rw[Ep (h.Nd.uH i d).aI f];exact hc;exact hc
  have:=j.writes (v:=a.value) d p u
  rw[Ab.cJ,tV] at this
  have J:aS V k (nf (V k) (a.word % 2) a.value)=vW V a.word.toNat a.value:=by
   unfold vW nf;rw[z];congr 1;by_cases e:a.word % 2=0;rw[aJ7 e,aJ7 (em.2 e)];grind
  grind
theorem RX.access (hC:C.Ok) (p:eI C N M) (h:RX C A0 M V) {i:Nat} {a:Acc} (g:(i:Int)<C.aE) (B:M.cE.calls i=false) (t:aK.iF (M.aC i)=some a):
  ∃V',RX C A0 (M.access C i a).1 V':=by
 have v:i<4:=by have:=hC.1;omega
 have I:C.lines=(C.aN*2).toNat:=by unfold bP.lines;omega
 unfold dB.access
 by_cases d:0<=a.word/\a.word<C.lines*2
 rotate_left
 .rw[aJ7 d];exact⟨V,h.Ij hC p B rfl rfl rfl rfl rfl rfl h.Nd (Kc (A:=tY C M V) (b:=false) g t (by unfold AM.may;exact aJ6 d))⟩
 rw[aJ6 (fun e=>e d)]
 dsimp only
 by_cases j:((M.cQ i).ask C (M.aC i).world (a.word/2/2)).2≠0
 .grind
 rw[aJ6 j]
 have j:((M.cQ i).ask C (M.aC i).world (a.word/2/2)).2=0:=Decidable.not_not.1 j
 unfold kE.ask at j ⊢
 split at j
 rotate_left
 .cases j
 rename_i u
 rw[aJ7 u]
 cases hkn:jT (M.cQ i).known (a.word/2/2) with
 |none=>
  dsimp only
  rw[aJ7 rfl]
  unfold dB.walk
  dsimp only
  by_cases k:((M.cQ i).begin C (a.word/2/2)).2.2≠0
  .grind
  rw[aJ6 k]
  have k:((M.cQ i).begin C (a.word/2/2)).2.2=0:=Decidable.not_not.1 k
  split
  .exact⟨V,h⟩
  .rename_i q;have E:=(vU (Decidable.not_not.1 q)).1;refine⟨V,?_,?_,h.swp,h.ask,h.log⟩
   .exact(h.Nd.more (N':=[_]) (fun x L=>by rw[List.mem_singleton.1 L];show ¬PK 6;decide)).perm E.symm
   .exact(h.pG.walk g k).perm E.symm
 |some o=>
  dsimp only
  have D:=aCp (world:=(M.aC i).world) p h g d I hkn
  have z:M.known i (a.word/2/2)=o:=by unfold dB.known;rw[hkn];rfl
  by_cases f:yV (M.aC i).world o=true
  rotate_left
  .have e:(if yV (M.aC i).world o=true then((1:Int),(0:Int)) else(2,0))=(2,0):=aJ6 f;simp only[e];rw[aJ6 (by decide),aJ7 trivial];have f:yV (M.aC i).world o=false:=by simpa using f
   exact⟨V,h.Ij hC p B rfl rfl rfl rfl rfl rfl h.Nd (Kc (A:=tY C M V) (b:=false) g t (by grind))⟩
  .have e:(if yV (M.aC i).world o=true then((1:Int),(0:Int)) else(2,0))=(1,0):=aJ7 f;simp only[e];rw[aJ6 (by decide),aJ6 (by decide),z];split
   .unfold dB.want;dsimp only;obtain⟨O,out,e,G,F,_⟩:=h.Nd.aFd hC v g (l:=a.word/2) (w:=(M.aC i).world) (wr:=a.write);have y:=u6 (C:=C) (core:=(i:Int)) (s:=M.dG i) (l:=a.word/2) (w:=(M.aC i).world) (wr:=a.write);rw[G] at y ⊢;dsimp only at y ⊢;split
    .exact⟨V,h⟩
    .split
     .exact⟨V,h⟩
     .rename_i q;exact⟨V,h.aI1 (vU (Decidable.not_not.1 q)).1 y rfl rfl rfl rfl rfl rfl F⟩
   .rename_i J;refine h.gI hC p g B t d (by grind) ?_;grind
end
section
variable {C:bP} {N:Nat} {M M':dB} {V V':Nat->Ln} {A0:AM}
theorem aCx (a:eI C N M) {g:Nat} (h:M.cE.phase g=0):M.cE.runs g=none:=by
 unfold Mon.phase Mon.run at h;rw[aac,Int.toNat_natCast] at h;cases hr:M.cE.runs g with
 |none=>rfl
 |some r=>rw[hr] at h;have:=(a.cE.run g r hr).2.2.1;dsimp only at h;omega
theorem S2 {es:List hZ} {g:Nat} {b:Bool}:(es.set g ⟨(es.getD g iI).owner,b⟩).map hZ.owner=es.map hZ.owner:=by
 apply List.ext_getElem?;intro k;rw[List.getElem?_map,List.getElem?_map,List.getElem?_set];by_cases e:g=k;subst e;rw[aJ7 rfl];by_cases h:g<es.length;rw[aJ7 h,List.getD_eq_getElem?_getD,List.getElem?_eq_getElem h];rfl;rw[aJ6 h,List.getElem?_eq_none (by omega)];rw[aJ6 e]
theorem RX.call (hC:C.Ok) (v:eI C N M) (h:RX C A0 M V) {i:Nat} {a:Mc.Ask} (T:(i:Int)<C.aE) (J:M.cE.calls i=false) (w:aK.sL (M.aC i) i=some a):RX C A0 (M.call C i a).1 V:=by
 have y:a.core=i:=by obtain⟨x,_,_,rfl⟩:=Mz w;rfl
 have I:=v.cE.len;have R:=hC.2.1;unfold dB.call;dsimp only;have fail:∀e:Int,(tY C M V).call a.call a.world a.bK a.to (decide (e=17))=(tY C M V,e)->RX C A0 (M.bI i 0 e).1 V:=fun e P=>
  h.Ij hC v J rfl rfl rfl rfl rfl rfl h.Nd (Qz (A:=tY C M V) T w P)
 have j:(tY C M V).bL.length=M.cE.dQ.length:=by grind
 have F:¬¬(0<=a.core/\a.core<C.aE):=by omega
 by_cases k:M.cE.has a.bK;rotate_left;have b:M.cE.call C.aE a=(M.cE,false,10):=by unfold Mon.call;rw[aJ6 F,aJ7 k]
 rw[b];dsimp only;rw[aJ7 (by decide)];refine fail 10 ?_;unfold AM.call;rw[aJ7 (by rw[j];exact k)];have t:¬¬M.cE.has a.bK:=fun e=>e k;have q:0<=a.bK/\a.bK<M.cE.dQ.length:=k;obtain⟨g,p⟩:=Int.eq_ofNat_of_zero_le q.1;by_cases L:M.cE.phase a.bK≠0;have b:M.cE.call C.aE a=(M.cE,false,17):=by unfold Mon.call;rw[aJ6 F,aJ6 t,aJ7 L]
 rw[b];dsimp only;rw[aJ7 (by decide)];refine fail 17 ?_;unfold AM.call;grind;have Q:¬M.cE.calls a.core=true:=by rw[y,J];simp
 have u:M.cE.phase g=0:=by grind
 have E:=aCx v u;have G:(tY C M V).bL.getD a.bK.toNat 0=(M.cE.kT a.bK).owner:=by
  show(M.cE.dQ.map hZ.owner).getD _ _=_;rw[Kd (by omega)];rfl
 by_cases o:(fL a.call a.world (M.cE.kT a.bK).owner a.to).2.2≠0;have b:M.cE.call C.aE a=(M.cE,false,(fL a.call a.world (M.cE.kT a.bK).owner a.to).2.2):=by unfold Mon.call;grind
 rw[b];dsimp only;rw[aJ7 o];refine fail _ ?_;unfold AM.call;grind;have b:M.cE.call C.aE a=((M.cE.pZ a.bK.toNat ⟨(M.cE.kT a.bK).owner,true⟩).cR a.bK.toNat (some (a.run C.aE (fL a.call a.world (M.cE.kT a.bK).owner a.to))),true,0):=by
  unfold Mon.call;grind
 rw[b];dsimp only;rw[aJ6 (by simp)];have o:(fL a.call a.world (M.cE.kT a.bK).owner a.to).2.2=0:=Decidable.not_not.1 o;split;exact h;rename_i O;have D:=(vU (Decidable.not_not.1 O)).1;have B:(g:Int)<C.aN:=by omega
 rw[p] at D ⊢;rw[Int.toNat_natCast];constructor;exact(h.Nd.more (fun x U=>by rw[(Bq U).1];decide)).perm D.symm;exact(h.pG.calls hC (by omega) B E).perm D.symm;intro d r b f;have b:aS M.cE.runs g _ d=some r:=b;unfold aS at b;by_cases e:d=g;rw[aJ7 e] at b;cases b;exact absurd (show(1:Int)=2 from f) (by decide);rw[aJ6 e] at b;exact h.swp d r b f;intro d r b;have b:aS M.cE.runs g _ d=some r:=b;unfold aS at b;show aK.sL (M.aC r.core.toNat) r.core.toNat=_/\fL r.call r.world ((M.cE.pZ g ⟨(M.cE.kT g).owner,true⟩).kT d).owner r.to=_;rw[Ib (by omega) (by omega)];by_cases e:d=g;rw[aJ7 e] at b;cases b;rw[aac,e];have z:(a.run C.aE (fL a.call a.world (M.cE.kT g).owner a.to)).core.toNat=i:=by show a.core.toNat=i;omega
 rw[z];refine⟨?_,?_⟩;rw[w];obtain⟨W,c2,c3,Y,c5⟩:=a;dsimp only at p;rw[p];rfl;rw[<-p];exact Prod.ext rfl (Prod.ext rfl o);rw[aJ6 e] at b;rw[aaa];exact h.ask d r b;show dA A0 M.log 0=(⟨C,M.aC,(M.cE.dQ.set g ⟨(M.cE.kT g).owner,true⟩).map hZ.owner,V⟩,_,_);have:(M.cE.dQ.set g ⟨(M.cE.kT g).owner,true⟩).map hZ.owner=M.cE.dQ.map hZ.owner:=by
  unfold Mon.kT;rw[Int.toNat_natCast];exact S2
 rw[this];exact h.log
theorem RX.step (hC:C.Ok) (j:eI C N M) (h:RX C A0 M V) {a:Int}:∃V',RX C A0 (M.step C a).1 V':=by
 unfold dB.step;by_cases g:0<=a/\a<C.aE;rotate_left;grind;rw[aJ6 (fun e=>e g)];dsimp only;obtain⟨i,q⟩:=Int.eq_ofNat_of_zero_le g.1;subst q;rw[Int.toNat_natCast];split;exact⟨V,h⟩;split;exact⟨V,h⟩;rename_i f;have f:M.cE.calls (i:Int)=false:=by unfold dB.waits at f;simpa using f
 split;rename_i r k;obtain⟨o,p⟩:=A7 (A:=tY C M V) (b:=false) g.2 k;exact⟨V,h.turns hC j f (s:=r.1) (v:=r.2) rfl rfl rfl rfl rfl rfl h.Nd (Jt k) (by rw[p];exact o)⟩;split;rename_i a d;exact⟨V,h.call hC j g.2 f d⟩;split;rename_i a d;exact h.access hC j g.2 f d;exact⟨V,h⟩
theorem xA {g:Nat} (a:(g:Int)<C.aN):g*2<C.lines/\g*2+1<C.lines:=by unfold bP.lines;omega
theorem RX.Xg (D:eI C N M) (h:RX C A0 M V) {a:Int}:RX C A0 (M.begin C a).1 V:=by
 unfold dB.begin;dsimp only;obtain⟨t,out,e,v,E,_,L⟩:=h.Nd.Xg (l:=a) (j:=M.Eu C a);have f:=Ll (C:=C) (H:=M.home) (l:=a) (j:=M.Eu C a);have d:(hU C M.home a (M.Eu C a)).1=t:=by rw[v]
 rw[v] at f ⊢;dsimp only at f ⊢;split;exact h;split;exact h;rename_i B;have y:=(vU (Decidable.not_not.1 B)).1;refine⟨E.perm y.symm,(h.pG.more f).perm y.symm,fun g r q p=>?_,h.ask,h.log⟩;have hold:=h.swp g r q p;have b:=(D.cE.run g r q).1;have I:=(h.pG.lock g b).2 (by rw[q];rfl);have J:∀k:Nat,k<C.lines->k/2=g->J5 (M.home k).1->J5 (t k).1:=fun k o G z=>by
  by_cases e:(k:Int)=a;subst e;have F:∀x,(M.Eu C k x).2=false:=fun x=>by
   unfold dB.Eu;grind
  rw[<-d];unfold hU;rw[aJ7 (by unfold bP.has;omega),Int.toNat_natCast];show J5 (aS M.home k _ k).1;rw[Ab.cJ];unfold mA.begin;by_cases u:(M.home k).1.busy=true;grind;rw[aJ6 u];cases hwt:(M.home k).1.waits with
  |nil=>exact z
  |cons n w=>exact z.begun (by simpa using u) hwt (h.Nd.line k o) F
  grind
 have O:=xA b;grind
theorem r7 {n:aJ} (h:Nt.pG C n=0) (b:n.kind=7\/n.kind=13):0<=n.no/\n.no<C.aN:=by
 unfold Nt.pG at h;split at h;split at h;split at h;rename_i f;have a:=f.1;have:C4 n.kind.toNat=[1,13]:=by rcases b with e|e<;>rw[e]<;>rfl
 rw[this] at a;unfold oJ at a;split at a;unfold oJ at a;split at a;rename_i d;exact d;cases a;cases a;cases h;cases h;cases h
theorem RX.fI (hC:C.Ok) (v:eI C N M) {n:aJ} {L:List aJ} (hp:(rO C M.kM).Perm (n::L)) (hn:Nt.pG C n=0) (h:RX C A0 M V) (o:(M.fI C n).2.2=0):
  ∀F:gL,(rO C F).Perm ((M.fI C n).2.1++L)->RX C A0 ((M.fI C n).1.dN F) V:=by
 intro F hF
 have p:=h.Nd.perm hp
 have f:=h.pG.perm hp
 obtain⟨ε,U⟩:=Ey hn
 obtain⟨i,R⟩:=Int.eq_ofNat_of_zero_le U.1
 have E:n.core.toNat=i:=by omega
 have t:(i:Int)<C.aE:=by omega
 have γ:=v.cE.len
 have δ:=hC.2.1
 unfold dB.fI at o hF ⊢
 by_cases k1:n.kind=1\/n.kind=2\/n.kind=3\/n.kind=4\/n.kind=5
 .rw[aJ7 k1] at o hF ⊢;dsimp only at o hF ⊢;obtain⟨H',out,Q,T,_,hH⟩:=p.homes hC (by omega);have y:=O5 (C:=C) (H:=M.home) (n:=n);rw[Q] at hF y;dsimp only at hF y;have D:(fD C M.home n).1=H':=by rw[Q]
  rw[D]
  refine⟨T.perm hF.symm,((f.skip (by unfold KK;omega)).more y).perm hF.symm,fun g r J q=>?_,h.ask,h.log⟩
  have hold:=h.swp g r J q
  have hl:=xA (v.cE.run g r J).1
  have θ:∀k:Nat,k<C.lines->J5 (M.home k).1->J5 (H' k).1:=fun k Z hs=>by
   by_cases e:(k:Int)=n.line;rw[<-D];have I:=p.nb n List.mem_cons_self (by unfold PK;omega);unfold fD;rw[aJ6 (by unfold Hm.fI;omega),aJ7 ⟨I.1,by unfold bP.has;exact I.2⟩];show J5 (aS M.home n.line.toNat _ k).1;rw[show n.line.toNat=k by omega,Ab.cJ,<-e];have v:=p.line k Z;rw[Mf e.symm (by unfold PK;omega)] at v;exact hs.take v (by omega);grind
  grind
 rw[aJ6 k1] at o hF ⊢
 by_cases k2:n.kind=8\/n.kind=9\/n.kind=10\/n.kind=11
 .rw[aJ7 k2] at o hF ⊢;dsimp only at o hF ⊢;obtain⟨s',out,Q,T,_⟩:=p.cache hC (by omega);have y:=bh (C:=C) (core:=n.core) (s:=M.dG n.core.toNat) (n:=n);rw[Q] at hF y ⊢;dsimp only at hF y ⊢;exact⟨T.perm hF.symm,((f.skip (by unfold KK;omega)).more y).perm hF.symm,h.swp,h.ask,h.log⟩
 rw[aJ6 k2] at o hF ⊢
 have β:¬PK n.kind:=by unfold PK;omega
 have b:=p.skip β
 by_cases k6:n.kind=6
 .rw[aJ7 k6] at o hF ⊢;dsimp only at o hF ⊢;exact⟨(b.more (N':=[_]) (fun x z=>by rw[List.mem_singleton.1 z];show ¬PK 12;decide)).perm hF.symm,(f.asked (by omega) (by omega) v.cE.own t R k6).2.perm hF.symm,h.swp,h.ask,h.log⟩
 rw[aJ6 k6] at o hF ⊢
 by_cases B:n.kind=12
 .rw[aJ7 B] at o hF ⊢;dsimp only at o hF ⊢;rw[E] at hF ⊢;refine⟨(b.more (fun x z=>?_)).perm hF.symm,(f.walked t R B (by omega)).2.perm hF.symm,h.swp,h.ask,h.log⟩;split at z
  .cases z
  .rw[List.mem_singleton.1 z];show ¬PK 6;decide
 rw[aJ6 B] at o hF ⊢
 by_cases u:n.kind=13
 .rw[aJ7 u] at o hF ⊢;dsimp only at o hF ⊢;rw[E];exact⟨(b.more (N':=[_]) (fun x z=>by rw[List.mem_singleton.1 z];show ¬PK 7;decide)).perm hF.symm,(f.dropped t R u (r7 hn (.inr u))).2.perm hF.symm,h.swp,h.ask,h.log⟩
 rw[aJ6 u] at o hF ⊢
 by_cases k7:n.kind=7
 rotate_left
 .grind
 rw[aJ7 k7] at o hF ⊢
 dsimp only at o hF ⊢
 have α:=r7 hn (.inl k7)
 obtain⟨g,hg⟩:=Int.eq_ofNat_of_zero_le α.1
 obtain⟨r,J,ζ,η,W,G⟩:=f.heard (g:=g) hC v.cE t R k7 hg
 rw[W]
 rw[List.nil_append] at hF
 dsimp only
 have Y:=(v.cE.run g r J).1
 have hl:=xA Y
 have w:∀j d,(M.cE.cR g (some (r.heard i).gZ)).runs j=some d->aK.sL (M.aC d.core.toNat) d.core.toNat=some ⟨d.core,d.world,d.call,j,d.to⟩/\fL d.call d.world (M.cE.kT j).owner d.to=(d.then',d.jZ,0):=fun j d a=>by
  have a:aS M.cE.runs g _ j=some d:=a;unfold aS at a;by_cases e:j=g;subst e;rw[aJ7 rfl] at a;cases a;exact h.ask j r J;rw[aJ6 e] at a;exact h.ask j d a
 by_cases ha:(r.heard i).none=true
 .rw[ha,aJ7 rfl];refine⟨?_,G.perm hF.symm,fun j d a q=>?_,w,h.log⟩
  .exact(b.Ak.Ak).perm hF.symm
  .have a:aS M.cE.runs g _ j=some d:=a;unfold aS at a;have O:∀k:Nat,xE C M.home n.no k=if k=g*2\/k=g*2+1 then mA.wo (M.home k) k else M.home k:=fun k=>by
    have e1:n.no*2=((g*2:Nat):Int):=by omega
    have P:n.no*2+1=((g*2+1:Nat):Int):=by omega
    unfold xE jA;rw[P,e1,aJ7 (by unfold bP.has;omega),aJ7 (by unfold bP.has;omega),Int.toNat_natCast,Int.toNat_natCast];dsimp only;by_cases e:k=g*2;subst e;rw[Ab.cF (by omega),Ab.cJ,aJ7 (.inl rfl)];by_cases P:k=g*2+1;subst P;rw[Ab.cJ,aJ7 (.inr rfl),Ab.cF (by omega)];rw[Ab.cF P,Ab.cF e,aaa]
   show J5 (xE C M.home n.no (j*2)).1/\J5 (xE C M.home n.no (j*2+1)).1
   rw[O,O]
   by_cases e:j=g
   .subst e;rw[aJ7 (.inl rfl),aJ7 (.inr rfl)];exact⟨.inl Fu,.inl Fu⟩
   .rw[aJ6 e] at a;rw[aaa,aaa];exact h.swp j d a q
 .rw[aJ6 ha];refine⟨b.perm hF.symm,G.perm hF.symm,fun j d a q=>?_,w,h.log⟩;have a:aS M.cE.runs g _ j=some d:=a;unfold aS at a;by_cases e:j=g
  .rw[aJ7 e] at a;cases a;have:(if(r.heard i).none=true then(2:Int) else r.phase)=2:=q;grind
  .rw[aJ6 e] at a;exact h.swp j d a q
theorem RX.xm (hC:C.Ok) (e:eI C N M) (h:RX C A0 M V) {a b c:Int}:RX C A0 (M.sB C a b c).1 V:=by
 unfold dB.sB;dsimp only;split;exact h;rename_i d;have d:(M.kM.take C a b c).2.2=0:=Decidable.not_not.1 d;split;exact h;rename_i f;split;exact h;rename_i g;have j:=(vU (Decidable.not_not.1 g)).1;exact h.fI hC e (ic d) (Lb e.kM d).1.pG (Decidable.not_not.1 f) _ j
end
section
variable {C:bP} {N:Nat} {M M':dB} {V V':Nat->Ln} {A0:AM}
theorem Bu {H:kK} {k:Nat} (f:k<C.lines) (h:¬fG C H k>0):¬I8 (H k).1:=by
 unfold fG at h;rw[aJ7 (by unfold bP.has;omega),Int.toNat_natCast] at h;unfold Row.Ak at h;rintro (⟨d,e⟩|⟨x,b,a⟩);grind;have:0<((H k).1.waits.filter fun n=>decide (n.kind=0)).length:=List.length_pos_iff.2 (List.ne_nil_of_mem (List.mem_filter.2 ⟨b,decide_eq_true a⟩));split at h<;>omega
theorem _root_.Go.Pc.mV.jZ {H:kK} {X:Nat->gV} {L:List aJ} {g:Nat} (h:mV C H X V L) (_t:(g:Int)<C.aN) (k:Pc.Clean (H (g*2)).1) (o:Pc.Clean (H (g*2+1)).1):mV C (mR H g) X (At.jZ V g) L:=by
 refine⟨fun l q=>?_,h.uH,h.room,h.new,h.nb⟩;have b:=h.line l q;have a:Pc.Clean (H l).1->Inv l (H l).1 (0,0) (0,0) (cls C X l) (F0 l L):=fun p=>by
  obtain⟨j,c2⟩:=b.clean p;exact b.sc j fun x f=>⟨(c2 x f).1,fun e=>absurd e (c2 x f).2.1⟩
 unfold mR At.jZ;by_cases e:l=g*2;subst e;rw[aJ7 (.inl (by omega)),Ab.cF (by omega),Ab.cJ];exact a k;by_cases d:l=g*2+1;subst d;rw[aJ7 (.inr (by omega)),Ab.cJ];exact a o;rw[aaa,Ab.cF d,Ab.cF e];exact b
theorem iz (h:RX C A0 M V) {a:Int} (f:(M.finish C a).2=0):
  ∃g r,a=((g:Nat):Int)/\(g:Int)<C.aN/\M.cE.runs g=some r/\r.phase=2/\(Pc.Clean (M.home (g*2)).1/\Pc.Clean (M.home (g*2+1)).1)/\
   M.finish C a=dB.bI (if r.jZ then(M.iY ((M.cE.pZ r.bK.toNat ⟨r.then',false⟩).cR g none)).qH (mR M.home r.bK) else M.iY ((M.cE.pZ r.bK.toNat ⟨r.then',false⟩).cR g none)) r.core.toNat 0 0:=by
 unfold dB.finish at f ⊢
 by_cases k:0<=a/\a<C.aN
 rotate_left
 .rw[aJ7 k] at f;cases f
 rw[aJ6 (fun e=>e k)] at f ⊢
 obtain⟨g,t⟩:=Int.eq_ofNat_of_zero_le k.1
 subst t
 by_cases d:M.gZ C g=false
 .grind
 rw[aJ6 d] at f ⊢
 have d:M.gZ C g=true:=by simpa using d
 unfold dB.gZ at d
 simp only[Bool.and_eq_true,decide_eq_true_eq,Bool.not_eq_true',decide_eq_false_iff_not] at d
 obtain⟨⟨j,w⟩,o⟩:=d
 have b:M.cE.run g=M.cE.runs g:=by unfold Mon.run;rw[aac,Int.toNat_natCast]
 cases hr:M.cE.runs g with
 |none=>unfold Mon.phase at j;rw[b,hr] at j;cases j
 |some r=>
  have v:r.phase=2:=by unfold Mon.phase at j;grind
  have q:=xA k.2
  have hold:=h.swp g r hr v
  have y:Pc.Clean (M.home (g*2)).1:=by
   rcases hold.1 with e|e;exact absurd e (Bu q.1 (by grind));exact e
  have z:Pc.Clean (M.home (g*2+1)).1:=by
   rcases hold.2 with e|e;exact absurd e (Bu q.2 (by rw[show((g*2+1:Nat):Int)=(g:Int)*2+1 by omega];exact o));exact e
  by_cases p:M.cE.has g
  .have u:M.cE.over g=((M.cE.pZ r.bK.toNat ⟨r.then',false⟩).cR g none,some r,0):=by
    unfold Mon.over;rw[aJ6 (fun e=>e p),b,hr];dsimp only;grind
   grind
  .exfalso;have u:M.cE.over g=(M.cE,none,10):=by unfold Mon.over;rw[aJ7 p]
   grind
def aDg (V:Nat->Ln) (b:Bool) (g:Nat):Nat->Ln:=if b then At.jZ V g else V
theorem RX.finish (hC:C.Ok) (y:eI C N M) (W:T0 M) (h:RX C A0 M V) {g:Nat} {r:Mc.jE} (p:(g:Int)<C.aN) (v:M.cE.runs g=some r) (hp:r.phase=2) (o:Pc.Clean (M.home (g*2)).1/\Pc.Clean (M.home (g*2+1)).1):
  RX C A0 (dB.bI (if r.jZ then(M.iY ((M.cE.pZ r.bK.toNat ⟨r.then',false⟩).cR g none)).qH (mR M.home r.bK) else M.iY ((M.cE.pZ r.bK.toNat ⟨r.then',false⟩).cR g none)) r.core.toNat 0 0).1 (Mc.aDg V r.jZ g)/\
  (dB.bI (if r.jZ then(M.iY ((M.cE.pZ r.bK.toNat ⟨r.then',false⟩).cR g none)).qH (mR M.home r.bK) else M.iY ((M.cE.pZ r.bK.toNat ⟨r.then',false⟩).cR g none)) r.core.toNat 0 0).2=0:=by
 obtain⟨L,Z⟩:=h.ask g r v
 have O:=y.cE.len
 have q:=y.cE.run g r v
 obtain⟨i,hi⟩:=Int.eq_ofNat_of_zero_le q.2.2.2.1.1
 have D:r.core.toNat=i:=by omega
 have B:(i:Int)<C.aE:=by omega
 rw[D] at L
 have Y:r.bK=g:=q.2.1
 have u:(tY C M V).bL.length=M.cE.dQ.length:=by show(M.cE.dQ.map _).length=_;rw[List.length_map]
 have k:(tY C M V).bL.getD (g:Int).toNat 0=(M.cE.kT g).owner:=by
  show(M.cE.dQ.map hZ.owner).getD _ _=_;rw[Kd (by omega)];rfl
 have f:(tY C M V).call r.call r.world g r.to (decide ((0:Int)=17))=(⟨C,M.aC,(M.cE.dQ.map hZ.owner).set g r.then',Mc.aDg V r.jZ g⟩,0):=by
  unfold AM.call;rw[aJ6 (by rw[u];omega),aJ6 (by decide),k,Z,aJ6 (by simp)];rfl
 have G:=Qz (A:=tY C M V) (e:=0) B L f
 obtain⟨w,J,z⟩:=G
 have z:dJ (aK.bI (M.aC i) i 0 0).2.1=false:=z
 have w:(tY C M V).step i false=_:=w
 have j:=uR J
 generalize U:(if r.jZ then(M.iY ((M.cE.pZ r.bK.toNat ⟨r.then',false⟩).cR g none)).qH (mR M.home r.bK) else M.iY ((M.cE.pZ r.bK.toNat ⟨r.then',false⟩).cR g none))=M1
 have I:M1.aC=M.aC:=by grind
 have m2:M1.log=M.log:=by grind
 have t:M1.cE=(M.cE.pZ g ⟨r.then',false⟩).cR g none:=by grind
 have P:M1.home=if r.jZ then mR M.home g else M.home:=by grind
 have m5:M1.cQ=M.cQ:=by grind
 have Q:M1.kM=M.kM:=by grind
 have m7:M1.dG=M.dG:=by grind
 have R:M1.bI r.core.toNat 0 0=((M1.iZ i (aK.bI (M.aC i) i 0 0).1).Rt (aK.bI (M.aC i) i 0 0).2.1,0):=by
  unfold dB.bI;dsimp only;have T:(aK.bI (M1.aC i) i 0 0).2.2=0:=by rw[I];exact J
  grind
 rw[R]
 refine⟨?_,rfl⟩
 constructor
 case Nd=>
  show mV C M1.home M1.dG _ (rO C M1.kM)
  rw[P,Q,m7]
  unfold Mc.aDg
  split
  .exact h.Nd.jZ p o.1 o.2
  .exact h.Nd
 case pG=>
  show iM C M1.cQ M1.cE (rO C M1.kM)
  rw[t,m5,Q]
  exact(h.pG.over hC (by omega) p v hp).1
 case swp=>
  show∀b d,M1.cE.runs b=some d->d.phase=2->J5 (M1.home (b*2)).1/\J5 (M1.home (b*2+1)).1
  rw[t,P]
  intro b d a F
  have a:aS M.cE.runs g none b=some d:=a
  unfold aS at a
  by_cases e:b=g
  .grind
  .rw[aJ6 e] at a;have:=h.swp b d a F;split
   .unfold mR;grind
   .exact this
 case ask=>
  intro b d a
  have a:M1.cE.runs b=some d:=a
  rw[t] at a
  have a:aS M.cE.runs g none b=some d:=a
  unfold aS at a
  by_cases e:b=g
  .grind
  rw[aJ6 e] at a
  have E:d.core.toNat≠i:=fun e2=>by
   have h1:=(y.cE.run b d a).2.2.2.1;refine e (W.one b g r.core ?_ ?_);unfold rc;grind;unfold rc;rw[v];rfl
  show aK.sL (aS M1.aC i _ d.core.toNat) _=_/\fL _ _ (M1.cE.kT b).owner _=_
  rw[I,t,Ab.cF E]
  have:((M.cE.pZ g ⟨r.then',false⟩).cR g none).kT b=M.cE.kT b:=by
   show(M.cE.pZ g _).kT b=_;rw[Ib (by omega) (by omega),aaa]
  rw[this]
  exact h.ask b d a
 case log=>
  rw[<-j,<-z] at w
  have:=Tu h.log w
  show dA A0 (M1.log++_) 0=(⟨C,aS M1.aC i _,M1.cE.dQ.map hZ.owner,_⟩,(M1.log++_).length,0)
  rw[I,m2,t,this]
  have:((M.cE.pZ g ⟨r.then',false⟩).cR g none).dQ.map hZ.owner=(M.cE.dQ.map hZ.owner).set g r.then':=by
   show(M.cE.dQ.set g _).map _=_;rw[List.map_set]
  rw[this]
theorem RX.ti (hC:C.Ok) (u:eI C N M) (v:T0 M) (h:RX C A0 M V) {a:Int}:∃V',RX C A0 (M.finish C a).1 V':=by
 by_cases b:(M.finish C a).2=0;obtain⟨g,r,rfl,d,j,f,t,B⟩:=iz h b;rw[B];exact⟨_,(h.finish hC u v d j f t).1⟩;refine⟨V,?_⟩;suffices p:(M.finish C a).1=M by rw[p];exact h
 unfold dB.finish at b ⊢;by_cases o:¬(0<=a/\a<C.aN);rw[aJ7 o];rw[aJ6 o] at b ⊢;by_cases q:M.gZ C a=false;rw[aJ7 q];rw[aJ6 q] at b ⊢;dsimp only at b ⊢;cases ho:(M.cE.over a).2.1 with
 |none=>rfl
 |some r=>
  rw[ho] at b;exfalso;obtain⟨g,D⟩:=Int.eq_ofNat_of_zero_le (Decidable.not_not.1 o).1;subst D;have E:M.cE.has g:=by
   apply Classical.byContradiction;intro e;unfold Mon.over at ho;rw[aJ7 e] at ho;cases ho
  have k:M.cE.run g=M.cE.runs g:=by unfold Mon.run;rw[aac,Int.toNat_natCast]
  unfold Mon.over at ho b;rw[aJ6 (fun e=>e E),k] at ho b;cases j:M.cE.runs g with
  |none=>grind
  |some F=>
   rw[j] at ho b;dsimp only at ho b;split at ho;cases ho;rename_i f;rw[aJ6 f] at b;cases ho;have d:=(Decidable.not_not.1 o).2;have p:M.gZ C g=true:=by simpa using q
   unfold dB.gZ at p;simp only[Bool.and_eq_true,decide_eq_true_eq,Bool.not_eq_true',decide_eq_false_iff_not] at p;have f:r.phase=2:=Decidable.not_not.1 f;have w:=xA d;have hold:=h.swp g r j f;have y:Pc.Clean (M.home (g*2)).1:=by
    rcases hold.1 with e|e;exact absurd e (Bu w.1 (by grind));exact e
   have z:Pc.Clean (M.home (g*2+1)).1:=by
    rcases hold.2 with e|e;exact absurd e (Bu w.2 (by grind));exact e
   have:=(h.finish hC u v d j f ⟨y,z⟩).2;grind
theorem RX.C9 (hC:C.Ok) (a:eI C N M) (b:T0 M) (h:RX C A0 M V) {d:Do}:∃V',RX C A0 (M.C9 C d).1 V':=by
 unfold dB.C9;split;exact h.step hC a;split;exact⟨V,h.xm hC a⟩;split;exact⟨V,h.Xg a⟩;split;exact h.ti hC a b;exact⟨V,h⟩
structure RA (C:bP) (A0:AM) (S:Nat->aK) (N:Nat) (M:dB):Prop where
 all:xy C S N M
 rx:∃V,RX C A0 M V
theorem RA.C9 {S:Nat->aK} (hC:C.Ok) (h:RA C A0 S N M) {d:Do}:RA C A0 S (N+2) (M.C9 C d).1:=by
 obtain⟨V,a⟩:=h.rx;exact⟨h.all.C9 hC,a.C9 hC h.all.inv h.all.wait⟩
theorem RA.runs {S:Nat->aK} (hC:C.Ok):∀{l:List Do} {N:Nat} {M:dB},RA C A0 S N M->RA C A0 S (N+2*l.length) (M.runs C l):=by
 intro l;induction l with
 |nil=>intro N M h;exact h
 |cons d l a=>
  intro N M h;have:=a (h.C9 (d:=d) hC);rw[List.length_cons,show N+2*(l.length+1)=N+2+2*l.length by omega];exact this
end
section
variable {C:bP}
theorem RX.new {ps:List (List Ins)} {ws os vs:List Int} (hC:C.Ok) (b:(os.length:Int)=C.aN):RX C (rM C ps ws os vs) (MC.new ⟨C,ps,ws,os,vs⟩) (At.words nH vs 0):=by
 have f:∀F:Nat->List aJ,(∀c,F c=[])->(List.range C.aE.toNat).flatMap F=[]:=fun F h=>by
  simp_all
 have a:rO C (MC.new ⟨C,ps,ws,os,vs⟩).kM=[]:=by
  unfold rO;exact f _ fun c=>by rw[List.flatMap_eq_nil_iff];exact fun _ _=>rfl
 constructor;rw[a];refine⟨fun l b=>?_,fun _ _=>Vt,fun _ _=>Room.new,fun _ _=>rfl,fun _ h=>by cases h⟩;have e:((MC.new ⟨C,ps,ws,os,vs⟩).home l).1=wO:=by
  show(rR C.lines l).1=wO;unfold rR;rw[aJ7 b]
 rw[e];have d:cls C (MC.new ⟨C,ps,ws,os,vs⟩).dG l=fun _=>⟨0,(0,0),false,false,false,0,(0,0)⟩:=by
  funext i;exact vq
 rw[d];show Inv l wO (At.words nH vs 0 l) (At.words nH vs 0 l) _ [];exact(Inv.zero l).sc (fun _ _=>rfl) (fun _ h=>by cases h);rw[a];refine iM.new (es:=os.map fun o=>(⟨o,false⟩:hZ)) (by grind) hC.2.1.1 fun x g=>?_;grind;exact fun _ _ h=>by cases h
 exact fun _ _ h=>by cases h
 show((rM C ps ws os vs),0,0)=(_,0,0);have:(os.map fun o=>(⟨o,false⟩:hZ)).map hZ.owner=os:=by
  rw[List.map_map];show os.map (fun o=>o)=os;exact List.map_id' os
 show _=((⟨C,_,(os.map fun o=>(⟨o,false⟩:hZ)).map hZ.owner,_⟩:AM),0,0);rw[this];rfl
theorem zN {A:AM} {x:Ev} (h:oC A x=0):
  ∃i:Nat,x.core=(i:Int)/\(i:Int)<A.cfg.aE/\(A.aC i).over=false/\
   (A.step x.core (dJ x)).1.cfg=A.cfg/\
   (A.step x.core (dJ x)).1.aC=aS A.aC i ((A.step x.core (dJ x)).1.aC i)/\(A.step x.core (dJ x)).2.1=x/\(A.step x.core (dJ x)).2.2=0:=by
 unfold oC at h
 by_cases f:(A.step x.core (dJ x)).2.2=20
 .rw[aJ7 f] at h;cases h
 rw[aJ6 f] at h
 by_cases o:(A.step x.core (dJ x)).2.2≠0\/(A.step x.core (dJ x)).2.1≠x
 .grind
 have a:(A.step x.core (dJ x)).2.2=0:=by grind
 have k:(A.step x.core (dJ x)).2.1=x:=by grind
 by_cases g:0<=x.core/\x.core<A.cfg.aE
 rotate_left
 .unfold AM.step at a;grind
 obtain⟨i,d⟩:=Int.eq_ofNat_of_zero_le g.1
 have b:(A.aC i).over=false:=by
  unfold AM.step at a;rw[aJ6 (fun e=>e g),d,Int.toNat_natCast] at a;cases b:(A.aC i).over with
  |false=>rfl
  |true=>rw[b,aJ7 rfl] at a;cases a
 refine⟨i,d,by omega,b,?_,?_,k,a⟩
 .rw[d,uJ (by omega) b];exact(sU (m:=A) (i:=i)).1
 .rw[d,uJ (by omega) b];funext j;unfold aS;split
  .rename_i e;rw[e]
  .rename_i e;show(aS _ i _) j=_;rw[Ab.cF e];exact(sU (m:=A) (i:=i)).2.2.1 j e
end
section
def Cb (i:Nat) (s:aK) (x:Ev):aK:=match aK.gU s i with
 |some r=>r.1
 |none=>(aK.bI s i x.value x.code).1
def xl (mem:Nat->Ln) (s:aK) (i:Nat) (x:Ev):Nat->Ln:=
 if x.code≠0 then mem else match aK.iF s with
  |some a=>if a.write then vW mem a.word.toNat a.value else mem
  |none=>match aK.sL s i with
   |some k=>if k.call≠4 then At.jZ mem k.bK.toNat else mem
   |none=>mem
structure y9 (A:AM) (x:Ev) (i:Nat):Prop where
 core:x.core=(i:Int)/\(i:Int)<A.cfg.aE
 aC:(A.step x.core (dJ x)).1.aC=aS A.aC i (Cb i (A.aC i) x)
 cfg:(A.step x.core (dJ x)).1.cfg=A.cfg
 ok:(Cb i (A.aC i) x).Ok
 mem:(A.step x.core (dJ x)).1.mem=xl A.mem (A.aC i) i x
 acc:∀a,aK.iF (A.aC i)=some a->x.code=0->(0<=a.word/\a.word<A.cfg.lines*2)/\(a.read=true->x.value=rU A.mem a.word.toNat)
 ask:∀a,aK.sL (A.aC i) i=some a->x.code=0->0<=a.bK/\a.bK<A.bL.length
 own:(A.step x.core (dJ x)).1.bL.length=A.bL.length
theorem j7 {s:aK} {i:Nat} {r:aK×Ev} (h:aK.gU s i=some r):aK.iF s=none/\aK.sL s i=none:=by
 unfold aK.gU at h;unfold aK.iF aK.sL xN;cases hn:aK.next? s with
 |none=>rw[hn] at h;cases h
 |some x=>rw[hn] at h;grind
theorem zj {s:aK} {i:Nat} {a:Acc} (h:aK.iF s=some a):aK.sL s i=none/\aK.gU s i=none:=by
 obtain⟨x,b,d,_⟩:=K9 h;unfold aK.sL aK.gU;rw[b];dsimp only;grind
theorem yu {s:aK} {i:Nat} {a:Mc.Ask} (h:aK.sL s i=some a):aK.iF s=none/\aK.gU s i=none:=by
 obtain⟨x,d,b,_⟩:=Mz h;unfold aK.iF aK.gU xN;simp_all
theorem I6 {s:aK} (b:s.Ok) (e:s.over=false) (i:Nat):(∃r,aK.gU s i=some r)\/(∃a,aK.iF s=some a)\/∃a,aK.sL s i=some a:=by
 obtain⟨_,d⟩:=Kw b e;have g:=(Te (b.2.2.2.2 _ (zP b.1 d))).1;have f:(kI s.prog s.at').op≠11:=by
  have:=b.2.2.1;rw[e] at this;unfold Cg at this;grind
 have k:aK.next? s=some (kI s.prog s.at'):=by unfold aK.next?;rw[e];rfl
 generalize kI s.prog s.at'=y at*;by_cases j:y.op=3\/y.op=4\/y.op=5;right;left;unfold aK.iF xN;simp_all;by_cases h:y.op=8;right;right;unfold aK.sL;simp_all;left;cases d:aK.gU s i with
 |some r=>exact⟨r,rfl⟩
 |none=>
  exfalso;unfold aK.gU at d;grind
theorem Gc {s:aK} {i:Nat} {v c:Int} (h:(aK.bI s i v c).2.2=0):aK.bI s i (aK.bI s i v c).2.1.value (aK.bI s i v c).2.1.code=aK.bI s i v c/\(aK.bI s i v c).2.1.code=c:=by
 unfold aK.bI at h ⊢;cases hn:aK.next? s with
 |none=>rw[hn] at h;cases h
 |some x=>
  rw[hn] at h;dsimp only at h ⊢;unfold aK.ev;grind
theorem Ua {c w o t:Int} (h:(fL c w o t).2.2=0):(fL c w o t).2.1=decide (c≠4):=by
 unfold fL at h ⊢;grind
theorem Ed {A:AM} {x:Ev} (hA:∀i:Nat,(i:Int)<A.cfg.aE->(A.aC i).Ok) (h:oC A x=0):∃i,y9 A x i:=by
 obtain⟨i,p,u,Z,Y,β,G,he⟩:=zN h;refine⟨i,?_⟩;have o:=hA i u;have d:A.step x.core (dJ x)=A.step i (dJ x):=by rw[p]
 rcases I6 o Z i with⟨r,Q⟩|⟨a,j⟩|⟨a,j⟩;obtain⟨f,E⟩:=A7 (b:=dJ x) u Q;have J:r.2=x:=by grind
 obtain⟨n1,n2⟩:=j7 Q;have q:Cb i (A.aC i) x=r.1:=by unfold Cb;rw[Q]
 refine⟨⟨p,u⟩,by rw[d,f,q],by rw[d,f],by rw[q];exact Tm o Q,?_,fun a j=>(by grind),fun a j=>(by grind),by rw[d,f]⟩;rw[d,f];unfold xl;grind;obtain⟨n2,n3⟩:=zj (i:=i) j;by_cases P:A.may (A.aC i).world a.word=true;obtain⟨f,E,R⟩:=O9 (b:=dJ x) (v:=if a.read then rU A.mem a.word.toNat else 0) u j P rfl;generalize hv:(if a.read=true then rU A.mem a.word.toNat else 0)=v at f E R;have J:(aK.bI (A.aC i) i v 0).2.1=x:=by grind
 obtain⟨L,O⟩:=Gc E;rw[J] at L O;have q:Cb i (A.aC i) x=(aK.bI (A.aC i) i v 0).1:=by unfold Cb;grind
 refine⟨⟨p,u⟩,by rw[d,f,q],by rw[d,f],by rw[q];exact Bb o,?_,fun b D _=>?_,fun a j=>(by grind),by rw[d,f]⟩;rw[d,f];unfold xl;grind;rw[j] at D;cases D;constructor;unfold AM.may at P;grind;intro z;rw[z,aJ7 rfl] at hv;rw[hv,<-J];obtain⟨y,W,I,rfl⟩:=K9 j;dsimp only at z;unfold aK.bI;rw[W];dsimp only;unfold xN;rw[decide_eq_true_eq] at z;rw[aaa,aJ7 (decide_eq_true I),aaa,aaa,aJ6 z];rfl;have P:A.may (A.aC i).world a.word=false:=by simpa using P
 obtain⟨f,E,R⟩:=Kc (b:=dJ x) u j P;have J:(aK.bI (A.aC i) i 0 19).2.1=x:=by grind
 obtain⟨L,O⟩:=Gc E;rw[J] at L O;have q:Cb i (A.aC i) x=(aK.bI (A.aC i) i 0 19).1:=by unfold Cb;grind
 refine⟨⟨p,u⟩,by rw[d,f,q],by rw[d,f],by rw[q];exact Bb o,?_,fun b D k=>by omega,fun a j=>(by grind),by rw[d,f]⟩;rw[d,f];unfold xl;rw[aac];obtain⟨n2,n3⟩:=yu (i:=i) j;obtain⟨B,e,k⟩:∃B e,A.call a.call a.world a.bK a.to (dJ x)=(B,e):=⟨_,_,rfl⟩;have F:x.code=e:=by
  obtain⟨y,W,I,rfl⟩:=Mz j;obtain⟨_,hy⟩:=yE W;rw[d,uJ u Z,<-hy] at G;rw[<-G];dsimp only at k;unfold AM.gI;rw[aaa,aaa,aaa,aaa,aJ7 I,k]
 have D:dJ x=decide (e=17):=by unfold dJ;rw[F]
 rw[D] at k;obtain⟨f,E,R⟩:=Qz u j k;rw[D] at d;rw[D] at G;have J:(aK.bI (A.aC i) i 0 e).2.1=x:=by grind
 obtain⟨L,O⟩:=Gc E;rw[J] at L O;have q:Cb i (A.aC i) x=(aK.bI (A.aC i) i 0 e).1:=by unfold Cb;grind
 have hk:=tI (m:=A) (c:=a.call) (w:=a.world) (g:=a.bK) (t:=a.to) (b:=decide (e=17));rw[k] at hk;have U:(e=0->(0<=a.bK/\a.bK<A.bL.length)/\B.mem=if a.call≠4 then At.jZ A.mem a.bK.toNat else A.mem)/\(e≠0->B.mem=A.mem):=by
  unfold AM.call at k;split at k;grind;rename_i g1;split at k;grind;split at k;grind;rename_i g3;cases k;refine⟨fun _=>⟨Decidable.not_not.1 g1,?_⟩,fun e=>absurd rfl e⟩;show(if(fL _ _ _ _).2.1=true then _ else _)=_;rw[Ua (Decidable.not_not.1 g3)];grind
 refine⟨⟨p,u⟩,by grind,by grind,by rw[q];exact Bb o,?_,fun b T=>(by grind),fun b T α=>?_,by grind⟩;rw[D,d,f];unfold xl;grind;grind
end
section
theorem tC {A:AM} {x:Ev} {l:List Ev} {n:Nat} (h:(dA A (x::l) n).2.2=0):oC A x=0/\dA A (x::l) n=dA (A.step x.core (dJ x)).1 l (n+1):=by
 unfold dA at h ⊢;split at h;grind;rename_i e;refine⟨Decidable.not_not.1 e,?_⟩;rw[dA.eq_def];exact aJ6 e
theorem F8 {A:AM} {x:Ev} {l:List Ev} {n:Nat} (h:oC A x=0):dA A (x::l) n=dA (A.step x.core (dJ x)).1 l (n+1):=by
 rw[dA.eq_def];exact aJ6 (by rw[h];simp)
theorem N4:∀{l:List Ev} {A:AM} {n k:Nat} {x y:Ev},(dA A l n).2.2=0->l[k]?=some x->y.core=x.core->y.code=x.code->y≠x->∃d,dA A (l.set k y) n=(d,n+k,16)
 |[],_,_,_,_,_,_,h,_,_,_=>by cases h
 |z::l,A,n,0,x,y,b,h,f,g,a=>by
  obtain⟨j,_⟩:=tC b;have:z=x:=by simpa using h
  subst this;obtain⟨i,u,v,w,_,_,o,p⟩:=zN j;have t:A.step y.core (dJ y)=A.step z.core (dJ z):=by unfold dJ;rw[f,g]
  refine⟨A,?_⟩;show dA A (y::l) n=_;have e:oC A y=16:=by
   unfold oC;rw[t,aJ6 (by rw[p];simp),aJ7 (.inr (by rw[o];exact fun e=>a e.symm))]
  unfold dA;grind
 |z::l,A,n,k+1,x,y,b,h,f,g,a=>by
  obtain⟨j,q⟩:=tC b;rw[q] at b;obtain⟨d,hA⟩:=N4 (k:=k) b (by simpa using h) f g a;refine⟨d,?_⟩;show dA A (z::l.set k y) n=_;unfold dA;rw[aJ6 (by rw[j];simp),hA];congr 2;omega
theorem C8 {A:AM} {i j:Nat} {s:aK} {b:Bool} (h:j≠i):({A with aC:=aS A.aC i s}:AM).step j b=({(A.step j b).1 with aC:=aS (A.step j b).1.aC i s},(A.step j b).2):=by
 have q:aS A.aC i s j=A.aC j:=Ab.cF h;have d:∀{t:aK} {f:Nat->aK},aS (aS f i s) j t=aS (aS f j t) i s:=fun {t f}=>by
  funext k;unfold aS;grind
 have o:∀{c w g t:Int} {b:Bool},({A with aC:=aS A.aC i s}:AM).call c w g t b=({(A.call c w g t b).1 with aC:=aS A.aC i s},(A.call c w g t b).2):=fun {c w g t b}=>by
  unfold AM.call;dsimp only;split;rfl;split;rfl;split<;>rfl
 have e:∀{x:Ins},({A with aC:=aS A.aC i s}:AM).access j x=({(A.access j x).1 with aC:=aS (A.access j x).1.aC i s},(A.access j x).2):=fun {x}=>by
  have u:∀{a b:Int},({A with aC:=aS A.aC i s}:AM).may a b=A.may a b:=rfl;unfold AM.access;rw[u];dsimp only;simp only[q];split;split;show(({A with aC:=_}:AM),_,_)=_;rw[d];rfl;split;rfl;unfold AM.iZ AM.iY;grind;rfl
 have p:∀{x:Ins},({A with aC:=aS A.aC i s}:AM).gI j x b=({(A.gI j x b).1 with aC:=aS (A.gI j x b).1.aC i s},(A.gI j x b).2):=fun {x}=>by
  unfold AM.gI;rw[e,o];dsimp only;simp only[q];repeat' split
  all_goals first
   |rfl
   |(show(({A with aC:=_}:AM),_,_)=_;unfold AM.iZ;dsimp only;rw[d])
   |(unfold AM.iZ;dsimp only;rw[d,(tI).2.2])
 unfold AM.step;dsimp only;rw[Int.toNat_natCast];simp only[q];split;rfl;split;rfl;rw[p];unfold AM.fM AM.iZ;dsimp only;rw[Ab.cF h,d]
theorem Og {A:AM} {x:Ev} (hA:∀i:Nat,(i:Int)<A.cfg.aE->(A.aC i).Ok) (h:oC A x=0) (B:¬(x.op=3\/x.op=4\/x.op=5\/x.op=8)):
  ∃(i:Nat) (r:aK×Ev),x.core=(i:Int)/\(i:Int)<A.cfg.aE/\aK.gU (A.aC i) i=some r/\r.2=x/\(A.step x.core (dJ x)).1={A with aC:=aS A.aC i r.1}:=by
 obtain⟨i,k,f,p,o,u,d,z⟩:=zN h
 have q:x.op=(kI (A.aC i).prog (A.aC i).at').op:=by
  rw[k,uJ f p] at d;rw[<-d]
 rcases I6 (hA i f) p i with⟨r,t⟩|⟨a,e⟩|⟨a,e⟩
 .obtain⟨v,w⟩:=A7 (b:=dJ x) f t;grind
 .obtain⟨y,g,j,_⟩:=K9 e;have:=(yE g).2;subst this;omega
 .obtain⟨y,g,j,_⟩:=Mz e;have:=(yE g).2;subst this;omega
theorem Ie {A:AM} {x:Ev}:oC A x=0↔(A.step x.core (dJ x)).2=(x,0):=by
 unfold oC;grind
theorem aGf {A:AM} {x y:Ev} (hA:∀i:Nat,(i:Int)<A.cfg.aE->(A.aC i).Ok) (z:oC A x=0) (I:oC (A.step x.core (dJ x)).1 y=0) (W:x.core≠y.core) (T:¬((x.op=3\/x.op=4\/x.op=5\/x.op=8)/\(y.op=3\/y.op=4\/y.op=5\/y.op=8))):
  oC A y=0/\oC (A.step y.core (dJ y)).1 x=0/\((A.step y.core (dJ y)).1.step x.core (dJ x)).1=((A.step x.core (dJ x)).1.step y.core (dJ y)).1:=by
 obtain⟨i,g,Y,_,_,_,_,_⟩:=zN z
 obtain⟨j,h,Z,_,_,_,_,_⟩:=zN I
 have f:j≠i:=by omega
 by_cases O:x.op=3\/x.op=4\/x.op=5\/x.op=8
 .have D:∀k:Nat,(k:Int)<(A.step x.core (dJ x)).1.cfg.aE->((A.step x.core (dJ x)).1.aC k).Ok:=fun k L=>by
   obtain⟨o,m⟩:=Ed hA z;rw[m.cfg] at L;rw[m.aC];unfold aS;split;exact m.ok;exact hA k L
  obtain⟨q,r,Q,u,w,G,p⟩:=Og D I (fun e=>T ⟨O,e⟩)
  have:q=j:=by omega
  subst this
  have a:(A.step x.core (dJ x)).1.aC q=A.aC q:=by
   obtain⟨o,m⟩:=Ed hA z;have:o=i:=by have:=m.core.1;omega
   subst this;rw[m.aC,Ab.cF f]
  rw[a] at w
  have d:(A.step x.core (dJ x)).1.cfg=A.cfg:=Jl
  rw[d] at u
  obtain⟨v,R⟩:=A7 (A:=A) (b:=dJ y) u w
  have B:A.step y.core (dJ y)=({A with aC:=aS A.aC q r.1},y,0):=by rw[h,v,G]
  refine⟨Ie.2 (by rw[B]),?_,?_⟩
  .rw[B];refine Ie.2 ?_;rw[g,C8 (fun e=>f e.symm)];grind
  .rw[B,p,g,C8 (fun e=>f e.symm)]
 .obtain⟨o,r,P,E,w,F,p⟩:=Og hA z O;have:o=i:=by omega
  subst this
  rw[p] at I ⊢
  rw[h]
  have U:=C8 (A:=A) (i:=o) (j:=j) (s:=r.1) (b:=dJ y) f
  have J:(A.step j (dJ y)).2=(y,0):=by
   grind
  have t:oC A y=0:=Ie.2 (by rw[h];exact J)
  have a:(A.step j (dJ y)).1.aC o=A.aC o:=by
   obtain⟨q,m⟩:=Ed hA t;have:q=j:=by have:=m.core.1;omega
   subst this;have e:=m.aC;rw[h] at e;rw[e,Ab.cF (fun e=>f e.symm)]
  have d:(A.step j (dJ y)).1.cfg=A.cfg:=Jl
  obtain⟨v,R⟩:=A7 (A:=(A.step j (dJ y)).1) (b:=dJ x) (i:=o) (r:=r) (by rw[d];exact E) (by rw[a];exact w)
  refine⟨t,Ie.2 (by rw[g,v,F]),?_⟩
  rw[g,v,U]
def Cj (l:List Ev) (k:Nat) (x y:Ev):List Ev:=(l.set k y).set (k+1) x
theorem wk {A:AM} {x:Ev} (hA:∀i:Nat,(i:Int)<A.cfg.aE->(A.aC i).Ok) (b:oC A x=0):∀i:Nat,(i:Int)<(A.step x.core (dJ x)).1.cfg.aE->((A.step x.core (dJ x)).1.aC i).Ok:=fun k a=>by
 obtain⟨d,m⟩:=Ed hA b;rw[m.cfg] at a;rw[m.aC];unfold aS;split;exact m.ok;exact hA k a
theorem Kp:∀{l:List Ev} {A:AM} {n k:Nat} {x y:Ev},(∀i:Nat,(i:Int)<A.cfg.aE->(A.aC i).Ok)->(dA A l n).2.2=0->l[k]?=some x->l[k+1]?=some y->x.core≠y.core->
  ¬((x.op=3\/x.op=4\/x.op=5\/x.op=8)/\(y.op=3\/y.op=4\/y.op=5\/y.op=8))->dA A (Cj l k x y) n=dA A l n
 |[],_,_,_,_,_,_,_,h,_,_,_=>by cases h
 |[z],_,_,0,_,_,_,_,_,h,_,_=>by cases h
 |z::w::l,A,n,0,x,y,hA,a,f,g,b,j=>by
  have q:z=x:=by simpa using f
  have t:w=y:=by simpa using g
  subst q t;obtain⟨e,d⟩:=tC a;rw[d] at a;obtain⟨p,o⟩:=tC a;obtain⟨s1,s2,s3⟩:=aGf hA e p b j;rw[d,o];show dA A (w::z::l) n=_;rw[F8 s1,F8 s2,s3]
 |z::l,A,n,k+1,x,y,hA,a,f,g,b,j=>by
  obtain⟨e,d⟩:=tC a;rw[d] at a ⊢;have:=Kp (k:=k) (wk hA e) a (by simpa using f) (by simpa using g) b j;rw[<-this];show dA A (z::Cj l k x y) n=_;exact F8 e
end
end Go.Mc
