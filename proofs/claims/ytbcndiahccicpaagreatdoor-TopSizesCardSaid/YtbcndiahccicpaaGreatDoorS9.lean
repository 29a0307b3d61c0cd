/- A part of the proof. -/
import Derived.Test.YtbcndiahccicpaaGreatDoorS8
import Derived.Shelf.Strings.Search2
import Derived.Shelf.Strings.Count
import Derived.Shelf.Strconv.Atoi
import Derived.Test.YtbcndiahccicpaaGreatDoorChecked
set_option linter.all false
open Go Go.Ab
variable {i:Nat} {a c g w:Int} {b:Bool}
namespace Go.At
open Go.Hm Go.Is
structure Ev where
 core:Int
 at':Int
 op:Int
 aY:Int
 dD:Int
 value:Int
 code:Int
 deriving DecidableEq
abbrev JG:=List Ev
def Ev.enc (x:Ev):FJ:=[I x.core,I x.at',I x.op,I x.aY,I x.dD,I x.value,I x.code]
def Ns:Ev:=⟨0,0,0,0,0,0,0⟩
structure aQ where
 dK:Nat->Int
 at':Int
 aY:Int
 over:Bool
 prog:IW
def aQ.core (s:aQ):FJ:=[I<|s.dK 0,I<|s.dK 1,I<|s.dK 2,I<|s.dK 3,I s.at',I s.aY,.bool s.over]
def mW (p:IW) (a:Int):iW:=p.getD a.toNat ⟨0,0,0,0⟩
def G7 (p:IW) (a:Int):Bool:=if(p.length:Int)<=a then true else decide ((mW p a).op=11)
def aQ.jA (s:aQ) (a:Int):aQ:={s with at':=a,over:=G7 s.prog a}
def aQ.dL (s:aQ) (i v:Int):aQ:={s with dK:=bA s.dK i.toNat v}
def aQ.Zc (s:aQ) (v:Int):aQ:={s with aY:=v}
def Jk (mem:Nat->Ln) (w:Nat):Int:=if w % 2=0 then(mem<|w/2).1 else(mem<|w/2).2
def Fm (mem:Nat->Ln) (w:Nat) (v:Int):Nat->Ln:=bA mem (w/2)<|if w % 2=0 then(v,(mem<|w/2).2) else((mem<|w/2).1,v)
def oD (mem:Nat->Ln) (g:Nat):Nat->Ln:=bA (bA mem (g*2) (0,0)) (g*2+1) (0,0)
structure AM where
 lD:bQ
 aD:Nat->aQ
 dG:FK
 mem:Nat->Ln
def AM.oZ (m:AM) (i:Nat) (s:aQ):AM:={m with aD:=bA m.aD i s}
def AM.jI (m:AM) (mem:Nat->Ln):AM:={m with mem:=mem}
def AM.G9 (m:AM) (o:FK):AM:={m with dG:=o}
def yM (aY owner:Int):Bool:=if 0<=aY/\aY<=3/\0<=owner/\owner<=4 then decide (aY=0\/owner=aY\/owner=4) else false
def AM.Nw (m:AM) (aY dD:Int):Bool:=if 0<=dD/\dD<m.lD.aF*2 then yM aY (m.dG.getD (dD.toNat/4) 0) else false
def AM.eK (m:AM) (i:Nat) (x:iW):AM×Int×Int:=
 if m.Nw (m.aD i).aY ((m.aD i).dK x.b.toNat) then
  if x.op=3 then(m.oZ i<|(m.aD i).dL x.a<|Jk m.mem ((m.aD i).dK x.b.toNat).toNat,Jk m.mem ((m.aD i).dK x.b.toNat).toNat,0)
  else if x.op=4 then(m.jI<|Fm m.mem ((m.aD i).dK x.b.toNat).toNat<|(m.aD i).dK x.a.toNat,(m.aD i).dK x.a.toNat,0)
  else((m.jI<|Fm m.mem ((m.aD i).dK x.b.toNat).toNat<|(m.aD i).dK x.a.toNat).oZ i<|(m.aD i).dL x.a<|Jk m.mem ((m.aD i).dK x.b.toNat).toNat,Jk m.mem ((m.aD i).dK x.b.toNat).toNat,0)
 else(m,0,19)
def jK (call aY owner to:Int):Int×Bool×Int:=
 if ¬((0<=aY/\aY<=3)/\(0<=owner/\owner<=4)) then(0,false,10)
 else if call=1 then(if aY≠0 then(0,false,18) else if owner≠0 then(0,false,16) else if ¬(1<=to/\to<=3) then(0,false,1) else(to,true,0))
 else if call=2 then(if owner=0 then(0,false,16) else if aY≠0/\aY≠owner then(0,false,18) else(0,true,0))
 else if call=3 then(if aY=0\/aY≠owner then(0,false,18) else if ¬(1<=to/\to<=3)\/to=owner then(0,false,1) else(to,true,0))
 else if call=4 then(if owner=4 then(0,false,16) else if aY≠owner then(0,false,18) else(4,false,0))
 else(0,false,15)
def AM.call (m:AM) (call aY a to:Int) (busy:Bool):AM×Int:=
 if ¬(0<=a/\a<m.dG.length) then(m,10)
 else if busy then(m,17)
 else if(jK call aY (m.dG.getD a.toNat 0) to).2.2≠0 then(m,(jK call aY (m.dG.getD a.toNat 0) to).2.2)
 else((m.G9<|m.dG.set a.toNat (jK call aY (m.dG.getD a.toNat 0) to).1).jI<|if(jK call aY (m.dG.getD a.toNat 0) to).2.1 then oD m.mem a.toNat else m.mem,0)
def AM.jA (m:AM) (i:Nat) (a:Int):AM:=m.oZ i<|(m.aD i).jA a
def AM.kD (m:AM) (i:Nat) (x:iW) (busy:Bool):AM×Int×Int×Int×Int:=
 if x.op=1 then(m.oZ i<|(m.aD i).dL x.a x.b,0,x.b,0,(m.aD i).at'+1)
 else if x.op=2 then(m.oZ i<|(m.aD i).dL x.a<|wr<|(m.aD i).dK x.b.toNat+(m.aD i).dK x.c.toNat,0,wr<|(m.aD i).dK x.b.toNat+(m.aD i).dK x.c.toNat,0,(m.aD i).at'+1)
 else if x.op=3\/x.op=4\/x.op=5 then((m.eK i x).1,(m.aD i).dK x.b.toNat,(m.eK i x).2.1,(m.eK i x).2.2,(m.aD i).at'+1)
 else if x.op=7 then(if(m.aD i).aY=0 then(m.oZ i<|(m.aD i).Zc x.a,0,x.a,0,(m.aD i).at'+1) else(m,0,x.a,18,(m.aD i).at'+1))
 else if x.op=8 then((m.call x.a (m.aD i).aY ((m.aD i).dK x.b.toNat) ((m.aD i).dK x.c.toNat) busy).1.oZ i<|(m.aD i).dL x.b (m.call x.a (m.aD i).aY ((m.aD i).dK x.b.toNat) ((m.aD i).dK x.c.toNat) busy).2,(m.aD i).dK x.b.toNat,(m.aD i).dK x.c.toNat,(m.call x.a (m.aD i).aY ((m.aD i).dK x.b.toNat) ((m.aD i).dK x.c.toNat) busy).2,(m.aD i).at'+1)
 else if x.op=9 then(m,0,x.a,0,x.a)
 else if x.op=10 then(m,0,(m.aD i).dK x.a.toNat,0,if(m.aD i).dK x.a.toNat=0 then x.b else(m.aD i).at'+1)
 else(m,0,0,0,(m.aD i).at'+1)
def AM.step (m:AM) (core:Int) (busy:Bool):AM×Ev×Int:=
 if ¬(0<=core/\core<m.lD.aB) then(m,Ns,10)
 else if(m.aD core.toNat).over then(m,Ns,20)
 else
  let s:=m.aD core.toNat
  let x:=mW s.prog s.at'
  let r:=m.kD core.toNat x busy
  (r.1.jA core.toNat r.2.2.2.2,⟨core,s.at',x.op,s.aY,r.2.1,r.2.2.1,r.2.2.2.1⟩,0)
def aQ.Ok (s:aQ):Prop:=0<=s.at'/\s.at'<=32/\s.over=G7 s.prog s.at'/\s.prog.length<=32/\∀x∈s.prog,pK x s.prog.length=0
structure AM.Ok (m:AM):Prop where
 lD:m.lD.Ok
 aD:∀i:Nat,(i:Int)<m.lD.aB->(m.aD i).Ok
 dG:(m.dG.length:Int)=m.lD.aM
def Av:List (IW)->Int
 |[]=>0
 |p::l=>if(rI p).2≠0 then(rI p).2 else Av l
def yT (a b:Int) (l:FK):Bool:=l.all fun x=>decide<|a<=x/\x<=b
def Bf (C:bQ) (ps:List (IW)) (ws os vs:FK):Int:=
 if ¬C.Ok then 10
 else if(ps.length:Int)≠C.aB\/(ws.length:Int)≠C.aB\/(os.length:Int)≠C.aM\/vs.length≠C.aF*2 then 1
 else if Av ps≠0 then Av ps
 else if ¬(yT 0 3 ws=true/\yT 0 4 os=true) then 10
 else 0
def tY (mem:Nat->Ln):FK->Nat->Nat->Ln
 |[],_=>mem
 |v::l,i=>tY (Fm mem i v) l<|i+1
def As (p:IW) (w:Int):aQ:={dK:=fun _=>0,at':=0,aY:=w,over:=G7 p 0,prog:=p}
def Ql (C:bQ) (ps:List (IW)) (ws os vs:FK):AM:=⟨C,fun i=>As (ps.getD i [])<|ws.getD i 0,os,tY uB vs 0⟩
def Ak (x:Ev):Bool:=decide<|x.code=17
def aDa (m:AM) (x:Ev):Int:=if(m.step x.core<|Ak x).2.2=20 then 20 else if(m.step x.core<|Ak x).2.2≠0\/(m.step x.core<|Ak x).2.1≠x then 16 else 0
def uW:AM->JG->Nat->AM×Nat×Int
 |m,[],n=>(m,n,0)
 |m,x::l,n=>if aDa m x≠0 then(m,n,aDa m x) else uW (m.step x.core<|Ak x).1 l (n+1)
variable {m:AM}
theorem Mu {x:iW}:(m.eK i x).1.lD=m.lD/\(m.eK i x).1.dG=m.dG/\(∀j,j≠i->(m.eK i x).1.aD j=m.aD j)/\((m.eK i x).1.aD i).prog=(m.aD i).prog/\((m.eK i x).1.aD i).at'=(m.aD i).at':=by
 unfold AM.eK;repeat' split
 all_goals simp only[AM.oZ,AM.jI,dI,aQ.dL,true_and,and_true,DU]
 all_goals grind[bO]
 all_goals simp
theorem Kd {t:Int}:(m.call c w g t b).1.lD=m.lD/\(m.call c w g t b).1.dG.length=m.dG.length/\(m.call c w g t b).1.aD=m.aD:=by
 grind[AM.call,AM.G9,AM.jI]
theorem K6 {x:iW}:(m.kD i x b).1.lD=m.lD/\(m.kD i x b).1.dG.length=m.dG.length/\(∀j,j≠i->(m.kD i x b).1.aD j=m.aD j)/\((m.kD i x b).1.aD i).prog=(m.aD i).prog:=by
 have f:=Mu (m:=m) (i:=i) (x:=x);have a:=Kd (m:=m) (c:=x.a) (w:=(m.aD i).aY) (g:=(m.aD i).dK x.b.toNat) (t:=(m.aD i).dK x.c.toNat) (b:=b);unfold AM.kD;repeat' split
 all_goals first
  |exact FR
  |(refine⟨a.1,a.2.1,fun j e=>?_,?_⟩
    .simp only[AM.oZ,bO e,a.2.2]
    .simp only[AM.oZ,dI,aQ.dL])
  |exact⟨rfl,rfl,fun _ _=>rfl,rfl⟩
  |(refine⟨rfl,rfl,fun j e=>?_,?_⟩
    .simp only[AM.oZ,bO e]
    .simp only[AM.oZ,dI,aQ.dL,aQ.Zc])
def Sl {x:iW} {n:Int} (h:pK x n=0):(1<=x.op/\x.op<12)/\Ha ((Qd x.op.toNat).getD 0 0) x.a n=true/\Ha ((Qd x.op.toNat).getD 1 0) x.b n=true/\Ha ((Qd x.op.toNat).getD 2 0) x.c n=true:=by
 unfold pK at h;split at h;rename_i b;split at h;rename_i e;have a:=ux.1 e;refine⟨c8 b,?_,?_,?_⟩;exact a _<|kt<|Mr b (i:=0) FQ;exact a _<|kt<|Mr b (i:=1) FQ;exact a _<|kt<|Mr b (i:=2) FQ;cases h;cases h
structure aMk (x:iW) (n:Int):Prop where
 r1:x.op=1\/x.op=2\/x.op=3\/x.op=4\/x.op=5\/x.op=10->0<=x.a/\x.a<4
 r2:x.op=2\/x.op=3\/x.op=4\/x.op=5\/x.op=8->0<=x.b/\x.b<4
 r3:x.op=2\/x.op=8->0<=x.c/\x.c<4
 p1:x.op=9->0<=x.a/\x.a<=n
 p2:x.op=10->0<=x.b/\x.b<=n
def Nd {x:iW} {n:Int} (h:pK x n=0):aMk x n:=by
 obtain⟨_,a,b,f⟩:=Sl h;refine⟨fun e=>?_,fun e=>?_,fun e=>?_,fun e=>?_,fun e=>?_⟩;rcases e with e|e|e|e|e|e<;>rw[e] at a<;>exact c8 a;rcases e with e|e|e|e|e<;>rw[e] at b<;>exact c8 b;rcases e with e|e<;>rw[e] at f<;>exact c8 f;rw[e] at a;exact c8 a;rw[e] at b;exact c8 b
theorem D1 {p:IW} (h:G7 p a=false):a<p.length:=by
 grind[G7]
theorem Di {p:IW} (b:0<=a) (h:a<p.length):mW p a∈p:=by
 grind[mW,List.getElem?_eq_getElem,List.getElem_mem]
def Yb {x:iW} {n:Int} (a:aMk x n) (e:0<=(m.aD i).at') (f:(m.aD i).at'<n):0<=(m.kD i x b).2.2.2.2/\(m.kD i x b).2.2.2.2<=n:=by
 unfold AM.kD;repeat' split
 all_goals first
  |(have:=a.p1 ‹_›;omega)
  |skip
 all_goals simp only[]
 all_goals first
  |omega
  |(have:=a.p2 ‹_›;omega)
def Ua:(m.step c b).1.lD=m.lD:=by
 unfold AM.step;split;rfl;split;rfl;exact(K6 (m:=m)).1
theorem aNh (a:m.Ok) (c:Int) (b:Bool):(m.step c b).1.Ok:=by
 unfold AM.step;split;exact a;split;exact a;rename_i o;obtain⟨n,rfl⟩:∃n:Nat,c=n:=FR;have g:=a.aD n FQ;simp only[aL] at o ⊢;obtain⟨h,t,u,v⟩:=K6 (m:=m) (i:=n) (x:=mW (m.aD n).prog (m.aD n).at') (b:=b);have f:=D1 (by rw[<-g.2.2.1];grind);have q:=Yb (b:=b) (Nd<|g.2.2.2.2 _<|Di g.1 f) g.1 f;refine⟨?_,fun j p=>?_,?_⟩;show(AM.kD m n _ b).1.lD.Ok;rw[h];exact a.lD;by_cases e:j=n;have k:((m.kD j _ b).1.jA j (m.kD j (mW (m.aD j).prog (m.aD j).at') b).2.2.2.2).aD j=((m.kD j (mW (m.aD j).prog (m.aD j).at') b).1.aD j).jA _:=dI;grind[aQ.Ok,aQ.jA];have k:((m.kD n (mW (m.aD n).prog (m.aD n).at') b).1.jA n (m.kD n (mW (m.aD n).prog (m.aD n).at') b).2.2.2.2).aD j=(m.kD n _ b).1.aD j:=bO e;rw[k,u j e];exact a.aD j (by rw[<-h];exact p);show(((AM.kD m n _ b).1.dG.length:Nat):Int)=(AM.kD m n _ b).1.lD.aM;rw[h,t];exact a.dG
end Go.At
variable {n:Nat} {x:Int}
namespace Go.Hm
structure aG where
 kind:Int
 core:Int
 aI:Int
 aY:Int
 state:Int
 d0:Int
 d1:Int
 oS:Bool
 no:Int
 deriving DecidableEq
abbrev IT:=List aG
def aG.enc (n:aG):FJ:=[I n.kind,I n.core,I n.aI,I n.aY,I n.state,I n.d0,I n.d1,.bool n.oS,I n.no]
def aG.zero:aG:=⟨0,0,0,0,0,0,0,false,0⟩
def iK (l:IT):FJ:=l.flatMap aG.enc
def Ej (l m:IT):iK (l++m)=iK l++iK m:=by simp[iK]
@[simp] theorem S8 (n:aG) (l:IT):iK (n::l)=n.enc++iK l:=rfl
@[simp] theorem Xm:iK []=[]:=rfl
structure bT where
 owner:Int
 sh:Nat->Bool
 aH:IT
 busy:Bool
 aX:aG
 aY:Int
 dQ:Nat->Bool
 cJ:Bool
 kS:Bool
 d0:Int
 d1:Int
def bT.enc (r:bT) (a:FM) (c:Nat):FJ:=
 [I r.owner,.bool<|r.sh 0,.bool<|r.sh 1,.bool<|r.sh 2,.bool<|r.sh 3,.slice a r.aH.length c,.bool r.busy,I r.aX.kind,I r.aX.core,I r.aX.aI,I r.aX.aY,I r.aX.state,I r.aX.d0,I r.aX.d1,.bool r.aX.oS,I r.aX.no,
   I r.aY,.bool<|r.dQ 0,.bool<|r.dQ 1,.bool<|r.dQ 2,.bool<|r.dQ 3,.bool r.cJ,.bool r.kS,I r.d0,I r.d1]
def bT.aBt (r:bT):FJ:=[I r.owner,.bool<|r.sh 0,.bool<|r.sh 1,.bool<|r.sh 2,.bool<|r.sh 3]
def bT.nk (r:bT) (a:FM) (c:Nat):FJ:=
 [.slice a r.aH.length c,.bool r.busy,I r.aX.kind,I r.aX.core,I r.aX.aI,I r.aX.aY,I r.aX.state,I r.aX.d0,I r.aX.d1,.bool r.aX.oS,I r.aX.no,
   I r.aY,.bool<|r.dQ 0,.bool<|r.dQ 1,.bool<|r.dQ 2,.bool<|r.dQ 3,.bool r.cJ,.bool r.kS,I r.d0,I r.d1]
def bT.aDk (r:bT) (a:FM) (c:Nat):r.enc a c=r.aBt++r.nk a c:=rfl
def mE (f:Nat->Bool) (i:Int) (v:Bool):Nat->Bool:=fun j=>if(j:Int)=i then v else f j
def bT.lA (r:bT):bT:={r with busy:=false,cJ:=false,kS:=false,aX:=aG.zero,aY:=0,d0:=0,d1:=0}
def bT.iC (r:bT) (core:Int):bT:={r with sh:=mE r.sh core false,owner:=if r.owner=core then -1 else r.owner}
def bT.mS (r:bT) (but:Int) (i:Nat):Bool:=decide ((i:Int)≠but)&&(r.sh i||decide ((i:Int)=r.owner))
theorem wh {r:bT} (h:(i:Int)≠x) (a:r.sh i=true):r.mS x i=true:=by grind[bT.mS]
theorem xq {r:bT} (h:(i:Int)≠x) (a:(i:Int)=r.owner):r.mS x i=true:=by
 grind[bT.mS,decide_eq_true]
theorem aBc {r:bT} (h:(i:Int)=x):r.mS x i=false:=by
 grind[bT.mS,decide_eq_false]
theorem aB0 {r:bT} (h:r.sh i=false) (a:(i:Int)≠r.owner):r.mS x i=false:=by
 grind[bT.mS,decide_eq_false]
def bT.Az (r:bT) (but:Int):Nat->Nat->Int
 |0,_=> -1
 |f+1,i=>if r.mS but i then i else r.Az but f (i+1)
def bT.first (r:bT) (but:Int):Int:=r.Az but 4 0
def bT.jV (r:bT) (but:Int):Nat->Nat->FL
 |0,_=>[]
 |f+1,i=>if r.mS but i then i::r.jV but f (i+1) else r.jV but f (i+1)
def bT.iX (r:bT) (but:Int):FL:=r.jV but 4 0
def bT.iO (r:bT) (l:FL):bT:={r with dQ:=fun j=>r.dQ j||l.contains j}
def eT (aI state:Int) (l:FL):IT:=l.map fun(i:Nat)=>{aG.zero with kind:=11,core:=(i:Int),aI:=aI,state:=state}
def bT.kI (r:bT):Bool:= !(r.dQ 0||r.dQ 1||r.dQ 2||r.dQ 3)
abbrev iN:=bT×Ln
def bT.yV (r:bT) (m:Ln):Ln:=if r.kS then(r.d0,r.d1) else m
def bT.oT (r:bT) (aI st:Int) (d:Ln):aG:=⟨8,r.aX.core,aI,r.aY,st,d.1,d.2,false,0⟩
def bT.dW (r:bT) (aI:Int) (d:Ln):bT×IT:=
 if r.aX.kind=2 then({r with owner:=r.aX.core,sh:=fun _=>false,cJ:=true},[r.oT aI 4 d])
 else if r.first r.aX.core= -1 then({r with owner:=r.aX.core,sh:=mE r.sh r.aX.core false,cJ:=true},[r.oT aI 2 d])
 else({r with sh:=mE r.sh r.aX.core true,cJ:=true},[r.oT aI 1 d])
def Vv (s:Int):Bool:=decide (0<=s/\s<5)&&decide (s≠0)
def bT.iE (r:bT) (n:aG):bT:={r with dQ:=mE r.dQ n.core false}
def bT.Kl (r:bT) (n:aG):bT:={r with owner:= -1,sh:=mE r.sh n.core (Vv n.state)}
def bT.qJ (r:bT) (n:aG):bT:={r with kS:=true,d0:=n.d0,d1:=n.d1}
def bT.dA (r:bT) (n:aG):bT:=
 if r.aX.kind≠1 then(r.iE n).iC n.core
 else if n.state≠3 then(if n.oS then((r.iE n).Kl n).qJ n else(r.iE n).Kl n)
 else if n.oS then(r.iE n).qJ n else r.iE n
def bT.yS (r:bT) (m:Ln) (n:aG):Ln:=if r.aX.kind≠1/\n.oS=true then(n.d0,n.d1) else m
def bT.rest (r:bT) (aI:Int) (m:Ln):bT×IT:=
 if r.kI then(if r.aX.kind=0 then(r.lA,[]) else r.dW aI (r.yV m)) else(r,[])
def iN.nH (x:iN) (aI:Int) (n:aG):iN×IT:=
 let m:=x.1.yS x.2 n
 let g:=(x.1.dA n).rest aI m
 ((g.1,m),g.2)
def bT.iL (r:bT) (n:aG) (aY:Int):bT:={r with busy:=true,aX:=n,aY:=aY}
def bT.La (r:bT) (aI:Int) (m:Ln):bT×IT:=
 if r.first r.aX.core≠ -1 then(r.iO<|r.iX r.aX.core,eT aI 0<|r.iX r.aX.core) else r.dW aI (r.yV m)
def bT.J2 (r:bT) (aI:Int) (m:Ln):bT×IT:=
 if r.owner≠ -1 then(r.iO [r.owner.toNat],eT aI 1 [r.owner.toNat]) else r.dW aI (r.yV m)
def bT.jY (r:bT):bT:=if r.owner=r.aX.core then {r with owner:= -1} else r
def bT.get (r:bT) (aI:Int) (m:Ln) (n:aG) (aY:Int):bT×IT:=
 let r:=r.iL n aY
 if n.kind=2 then r.La aI m else r.jY.J2 aI m
def bT.lE (r:bT) (n:aG):bT:={r with aH:=r.aH++[n]}
def bT.next (r:bT) (w:IT):bT:={r with aH:=w}
def bT.N0 (r:bT) (n:aG):bT:={r with busy:=true,aX:=n}
def iN.take (x:iN) (aI:Int) (n:aG):iN×IT×Int:=
 if n.kind=4 then(if x.1.cJ=false\/x.1.aX.core≠n.core then(x,[],16) else((x.1.lA,x.2),[],0))
 else if n.kind=5 then(if x.1.dQ n.core.toNat=false then(x,[],16) else let g:=iN.nH x aI n;(g.1,g.2,0))
 else((x.1.lE n,x.2),[],0)
def pQ (aI:Int):aG:={aG.zero with aI:=aI}
def iN.oz (x:iN) (aI:Int):iN:=(x.1.lE<|pQ aI,x.2)
def mO (kind core aI:Int):aG:={aG.zero with kind:=kind,core:=core,aI:=aI}
def bT.eY (r:bT) (aI:Int) (m:Ln) (n:aG) (j:Int->Int×Bool):iN×IT:=
 if n.kind=3 then((r.iC n.core,if r.owner=n.core/\n.oS=true then(n.d0,n.d1) else m),[mO 10 n.core aI])
 else if n.kind=1\/n.kind=2 then(if(j n.aY).2=true then let g:=r.get aI m n (j n.aY).1;((g.1,m),g.2) else((r,m),[mO 9 n.core aI]))
 else if r.first (-1)= -1 then((r,m),[])
 else(((r.N0 n).iO<|r.iX<|-1,m),eT aI 0<|r.iX<|-1)
def iN.dJ (x:iN) (aI:Int) (j:Int->Int×Bool):iN×IT×Int:=
 if x.1.busy=true then(x,[],16)
 else match x.1.aH with
  |[]=>(x,[],12)
  |n::w=>let g:=bT.eY (x.1.next w) aI x.2 n j;(g.1,g.2,0)
abbrev nC:=Nat->iN
def Ep:bT:=⟨-1,fun _=>false,[],false,aG.zero,0,fun _=>false,false,false,0,0⟩
theorem Pq {r:bT}:∀(f i:Nat),i+f=4->(∀c∈r.jV x f i,c<4)/\(r.jV x f i).length<=f:=by
 intro f;induction f with
 |zero=>grind[bT.jV]
 |succ f a=>
  grind[bT.jV]
def xn {r:bT}:∀c∈r.iX x,c<4:=(Pq 4 0 rfl).1
theorem tW {r:bT}:(r.iX x).length<=4:=(Pq 4 0 rfl).2
def bQ.kJ (C:bQ) (l:Int):Prop:=0<=l/\l<C.aF
instance (C:bQ) (l:Int):Decidable (C.kJ l):=by unfold bQ.kJ;infer_instance
def dF (k:Int):Prop:=k=1\/k=2\/k=3\/k=4\/k=5
instance (k:Int):Decidable (dF k):=by unfold dF;infer_instance
def eW (C:bQ) (H:nC) (n:aG):nC×IT×Int:=
 if ¬dF n.kind then(H,[],15)
 else if(0<=n.core/\n.core<C.aB)/\C.kJ n.aI then(bA H n.aI.toNat (iN.take (H n.aI.toNat) n.aI n).1,(iN.take (H n.aI.toNat) n.aI n).2)
 else(H,[],10)
def jT (C:bQ) (H:nC) (l:Int):nC×Int:=if C.kJ l then(bA H l.toNat<|iN.oz (H l.toNat) l,0) else(H,10)
def eQ (C:bQ) (H:nC) (l:Int) (j:Int->Int×Bool):nC×IT×Int:=
 if C.kJ l then(bA H l.toNat (iN.dJ (H l.toNat) l j).1,(iN.dJ (H l.toNat) l j).2) else(H,[],10)
structure bT.fT (r:bT):Prop where
 core:0<=r.aX.core/\r.aX.core<4
 owner: -1<=r.owner/\r.owner<4
 aH:∀n∈r.aH,0<=n.core/\n.core<4
def Bh (C:bQ) (H:nC) (N:Nat):Prop:=∀l,l<C.aF->(H l).1.fT/\(H l).1.aH.length<=N
def L0 (C:bQ) (H:nC) (l:Int):Int:=if C.kJ l then((H l.toNat).1.aH.length:Int) else 0
def sQ (n:Nat):nC:=fun i=>if i<n then(Ep,(0,0)) else({Ep with owner:=0},(0,0))
theorem aE3:bA (sQ n) n (Ep,(0,0))=sQ (n+1):=by
 unfold bA sQ;grind
def aG.aRb (n r:aG) (len:Nat):Prop:=
 n.aI=r.aI/\n.no=0/\((n.kind=8/\n.core=r.core/\len=1/\(r.kind=1\/r.kind=2))\/(n.kind=9/\n.aY=0/\n.core=r.core/\len=1/\(r.kind=1\/r.kind=2))\/
  (n.kind=10/\n.aY=0/\n.core=r.core/\len=1/\r.kind=3)\/(n.kind=11/\n.aY=0/\n.core≠r.core/\(r.kind=1\/r.kind=2\/(r.kind=0/\n.state=0))))
end Go.Hm
variable {l no v:Int}
namespace Go.Ct
open Go.Hm
section
def Qc (s:Int):Bool:=decide<|1<=s/\s<=4
def Cm (s:Int):Bool:=decide<|s=2\/s=4
def qH (s:Int):Bool:=decide<|s=3\/s=4
def Kv (s:Int):Bool:=decide<|2<=s/\s<=4
def isS (s:Int):Bool:=decide<|0<=s/\s<5
def Rm (s:Int):Int:=if s=2 then 1 else if s=4 then 3 else s
def sZ (s:Int) (w:Bool):Bool:=if w then Cm s else Qc s
structure vX where
 st:Int
 w:Int
 d:Ln
 deriving DecidableEq
def vX.enc (x:vX):FJ:=[I x.st,I x.w,I x.d.1,I x.d.2]
def vX.zero:vX:=⟨0,0,(0,0)⟩
abbrev Th:=Int×vX
abbrev IV:=List Th
def thE (t:Th):FJ:=I t.1::t.2.enc
def iR (l:IV):FJ:=l.flatMap thE
theorem I7 (l:IV):(iR l).length=l.length*5:=by
 induction l with
 |nil=>rfl
 |cons a t b=>simp only[iR,AN,dd] at b ⊢;grind[thE,vX.enc]
def Ed (l:IV):(iR l).all gU=true:=by
 induction l with
 |nil=>rfl
 |cons a t b=>simp only[iR,AN,DX,dn] at b ⊢;exact⟨rfl,b⟩
def aD2 (l m:IV):iR (l++m)=iR l++iR m:=by simp[iR]
theorem vf (l:IV) (i:Nat):(iR l).take (i*5)=iR (l.take i):=by
 induction l generalizing i with
 |nil=>simp[iR]
 |cons a t b=>
  cases i with
  |zero=>simp[iR]
  |succ i=>
   simp only[iR,AN,BB] at b ⊢;grind[List.take_append,List.take_of_length_le,thE,vX.enc]
theorem Uw (l:IV) (i:Nat):(iR l).drop (i*5)=iR (l.drop i):=by
 induction l generalizing i with
 |nil=>simp[iR]
 |cons a t b=>
  cases i with
  |zero=>simp[iR]
  |succ i=>
   have:(i+1)*5=5+i*5:=FQ
   simp only[iR,AN,CU] at b ⊢;have e:(thE a).length=5:=rfl;simp_all[DM,eo,hT]
theorem oa {l:IV} {t:Th} (h:l[i]?=some t):((iR l).drop<|i*5).take 5=thE t:=by
 rw[Uw];have a:=(ew.1 h);rw[l7 a.1,a.2];exact List.take_left' rfl
def ix (no:Int):IV->Option Nat
 |[]=>none
 |t::l=>if t.1=no then some 0 else(ix no l).map (·+1)
def ixI (no:Int) (l:IV):Int:=match ix no l with|some i=>i|none=> -1
def get (no:Int) (l:IV):Option vX:=(l.find? fun t=>decide<|t.1=no).map (·.2)
def zM (no:Int):IV->IV
 |[]=>[]
 |t::l=>if t.1=no then l else t::zM no l
theorem Ew {l:IV} (h:ix no l=some i):∃x,l[i]?=some (no,x)/\get no l=some x/\zM no l=l.take i++l.drop (i+1)/\i<l.length:=by
 induction l generalizing i with
 |nil=>cases h
 |cons t l a=>
  simp only[ix] at h;split at h;grind[get,zM];cases hx:ix no l with
  |none=>grind
  |some j=>
   grind[get,decide_eq_false,zM]
theorem H6 {l:IV} (h:ix no l=none):get no l=none/\zM no l=l:=by
 induction l with
 |nil=>exact⟨rfl,rfl⟩
 |cons t l b=>
  simp only[ix] at h;by_cases a:t.1=no;grind;rw[bD1 a] at h;obtain⟨e,f⟩:=b IF;grind[zM,get,decide_eq_false]
theorem Re {l:IV}:(zM no l).length=if(get no l).isSome then l.length - 1 else l.length:=by
 cases h:ix no l with
 |none=>grind[H6]
 |some i=>
  grind[Ew]
structure jR where
 S:Nat->IV
 al:Int
 aw:Bool
 pM:Bool
 gl:Int
 gc:vX
 uD:Bool
def jR.kT:jR:=⟨fun _=>[],0,false,false,0,vX.zero,false⟩
variable (n:Nat) (ways:Nat) (aF:Int) (core:Int)
def cU (l:Int):Nat:=(l % (n:Int)).toNat
end
variable {S:Nat->IV}
variable {ways:Nat} {s:jR} {C:bQ} {core:Int}
def kL (x to:Int):Int:=if to=1 then Rm x else 0
def bJ (n:Nat) (S:Nat->IV) (no:Int):vX×Int:=if no<0 then(vX.zero,10) else match get no (S<|cU n no) with|some x=>(x,0)|none=>(vX.zero,12)
def kR (n ways:Nat) (S:Nat->IV) (no:Int):Option Th:=match get no (S<|cU n no) with
 |some _=>none
 |none=>if(S<|cU n no).length<ways then none else(S<|cU n no)[0]?
def jQ (n:Nat) (S:Nat->IV) (no:Int):Nat->IV:=if no<0 then S else bA S (cU n no) (zM no<|S<|cU n no)
def pB (n ways:Nat) (S:Nat->IV) (no:Int) (x:vX):(Nat->IV)×Int:=
 if(zM no<|S<|cU n no).length>=ways then(bA S (cU n no)<|zM no<|S<|cU n no,11) else(bA S (cU n no)<|zM no (S<|cU n no)++[(no,x)],0)
theorem bBn {l:IV} (h:l.length<=4):(zM no l).length<=4:=by grind[Re]
theorem aLq (hb:∀i,(S i).length<=4):∀i,(jQ n S no i).length<=4:=by
 intro i;unfold jQ;grind[bA,bBn]
def Gh (n ways:Nat) (S:Nat->IV) (no:Int):Nat->IV:=if(bJ n S no).2=0 then(pB n ways (jQ n S no) no (bJ n S no).1).1 else jQ n S no
def aJt (n ways:Nat) (S:Nat->IV) (no:Int):Int:=if(bJ n S no).2=0 then(pB n ways (jQ n S no) no (bJ n S no).1).2 else(bJ n S no).2
def vK (C:bQ) (l:Int):Bool:=decide<|0<=l/\l<C.aF
def pK (n:Nat) (S:Nat->IV) (l a:Int) (w:Bool):Bool:=decide ((bJ n S l).2=0)&&decide ((bJ n S l).1.w=a)&&sZ (bJ n S l).1.st w
def tF (C:bQ) (S:Nat->IV) (l at' a:Int) (w:Bool):Int:=
 if vK C l=false then 10 else if at'<0 then 10 else if at'>=2 then 10 else if pK C.aU.toNat S l a w=false then 16 else 0
def pG (C:bQ) (s:jR) (l at' a:Int):jR:=if tF C s.S l at' a false=0 then {s with S:=Gh C.aU.toNat C.ways.toNat s.S l} else s
def aMa (d:Ln) (at' v:Int):Ln:=if at'=0 then(v,d.2) else(d.1,v)
def J3 (n:Nat) (S:Nat->IV) (l at' v:Int):vX:=⟨4,(bJ n S l).1.w,aMa (bJ n S l).1.d at' v⟩
def mQ (C:bQ) (s:jR) (l at' a v:Int):jR:=if tF C s.S l at' a true=0 then {s with S:=(pB C.aU.toNat C.ways.toNat s.S l<|J3 C.aU.toNat s.S l at' v).1} else s
def Bd (s:jR):Prop:=∀i,(s.S i).length<=4
theorem sO (hC:C.Ok):0<C.aU.toNat/\C.aU.toNat<=8/\0<C.ways.toNat/\C.ways.toNat<=4:=by grind[bQ.Ok]
theorem xB {at':Int} {w:Bool} (h:tF C S l at' a w=0):(0<=l/\l<C.aF)/\(at'=0\/at'=1)/\(bJ C.aU.toNat S l).2=0/\sZ (bJ C.aU.toNat S l).1.st w=true:=by
 unfold tF at h;split at h;omega;split at h;omega;split at h;omega;split at h;omega;grind[vK,pK]
def tV (core:Int) (s:jR) (l w:Int) (wr:Bool) (ns:IT):jR×IT×Int:=
 ({s with al:=l,aw:=wr,pM:=true},ns++[⟨if wr then 2 else 1,core,l,w,0,0,0,false,0⟩],0)
def Ag (C:bQ) (core:Int) (s:jR) (l w:Int) (wr:Bool):jR×IT×Int:=
 match kR C.aU.toNat C.ways.toNat s.S l with
 |none=>tV core s l w wr []
 |some v=>
  if s.uD then(s,[],11) else
  if(bJ C.aU.toNat s.S v.1).2≠0 then({s with S:=jQ C.aU.toNat s.S v.1},[],(bJ C.aU.toNat s.S v.1).2) else
  tV core {s with S:=jQ C.aU.toNat s.S v.1,gl:=v.1,gc:=(bJ C.aU.toNat s.S v.1).1,uD:=true} l w wr
   [⟨3,core,v.1,(bJ C.aU.toNat s.S v.1).1.w,0,(bJ C.aU.toNat s.S v.1).1.d.1,(bJ C.aU.toNat s.S v.1).1.d.2,qH (bJ C.aU.toNat s.S v.1).1.st,0⟩]
def fY (C:bQ) (core:Int) (s:jR) (l w:Int) (wr:Bool):jR×IT×Int:=
 if vK C l=false then(s,[],10) else if s.pM then(s,[],17) else if s.uD=true/\s.gl=l then(s,[],16) else
 if(bJ C.aU.toNat s.S l).2=0/\sZ (bJ C.aU.toNat s.S l).1.st wr=true then(s,[],13) else Ag C core s l w wr
abbrev Tk:=jR×IT×Int
def oQ (C:bQ) (s:jR) (n:aG):vX:=⟨n.state,n.aY,if(bJ C.aU.toNat s.S n.aI).2=0 then(bJ C.aU.toNat s.S n.aI).1.d else(n.d0,n.d1)⟩
def vM (C:bQ) (core:Int) (s:jR) (n:aG):Tk:=
 if s.pM=false then(s,[],16) else if s.al≠n.aI then(s,[],16) else
 if(pB C.aU.toNat C.ways.toNat s.S n.aI<|oQ C s n).2≠0 then({s with S:=(pB C.aU.toNat C.ways.toNat s.S n.aI<|oQ C s n).1},[],(pB C.aU.toNat C.ways.toNat s.S n.aI<|oQ C s n).2) else
 ({s with S:=(pB C.aU.toNat C.ways.toNat s.S n.aI<|oQ C s n).1,al:=0,aw:=false,pM:=false},[⟨4,core,n.aI,0,0,0,0,false,0⟩],0)
def Bm (s:jR) (n:aG):Tk:=if s.pM=false then(s,[],16) else if s.al≠n.aI then(s,[],16) else({s with al:=0,aw:=false,pM:=false},[],0)
def rU (s:jR) (n:aG):Tk:=if s.uD=false then(s,[],12) else if s.gl≠n.aI then(s,[],12) else({s with gl:=0,gc:=vX.zero,uD:=false},[],0)
def iS (core:Int) (n:aG) (x:vX):aG:=if Kv x.st then⟨5,core,n.aI,0,kL x.st n.state,x.d.1,x.d.2,qH x.st,0⟩ else⟨5,core,n.aI,0,kL x.st n.state,0,0,false,0⟩
def lK (C:bQ) (core:Int) (s:jR) (n:aG):Tk:=
 if n.state≠1/\n.state≠0 then(s,[],10) else
 if(bJ C.aU.toNat s.S n.aI).2=0 then
  ({s with S:=if kL (bJ C.aU.toNat s.S n.aI).1.st n.state=0 then jQ C.aU.toNat s.S n.aI else(pB C.aU.toNat C.ways.toNat s.S n.aI {(bJ C.aU.toNat s.S n.aI).1 with st:=kL (bJ C.aU.toNat s.S n.aI).1.st n.state}).1},[iS core n (bJ C.aU.toNat s.S n.aI).1],0)
 else if s.uD=false then(s,[⟨5,core,n.aI,0,0,0,0,false,0⟩],0) else if s.gl≠n.aI then(s,[⟨5,core,n.aI,0,0,0,0,false,0⟩],0) else
  ({s with gc:={s.gc with st:=kL s.gc.st n.state}},[iS core n s.gc],0)
def fP (C:bQ) (core:Int) (s:jR) (n:aG):Tk:=
 if n.kind=8 then(if vK C n.aI=false then(s,[],10) else vM C core s n)
 else if n.kind=9 then(if vK C n.aI=false then(s,[],10) else Bm s n)
 else if n.kind=10 then(if vK C n.aI=false then(s,[],10) else rU s n)
 else if n.kind=11 then(if vK C n.aI=false then(s,[],10) else lK C core s n)
 else(s,[],15)
def Zf (core:Int) (n:aG):aG:=⟨5,core,n.aI,0,0,0,0,false,0⟩
structure Sts (n:Nat) (s:jR):Prop where
 bBl:∀l,(bJ n s.S l).2=0->0<=(bJ n s.S l).1.st/\(bJ n s.S l).1.st<5
 vO:s.uD=true->0<=s.gc.st/\s.gc.st<5
theorem zK {l:IV}:(zM no l).Sublist l:=by
 induction l with
 |nil=>exact List.Sublist.refl _
 |cons t l a=>
  grind[zM]
theorem Q4 {l:IV} (h:(l.map (·.1)).Nodup):no∉(zM no l).map (·.1):=by
 induction l with
 |nil=>simp[zM]
 |cons t l a=>
  grind[List.nodup_cons,zM]
theorem R3 {l:IV} {x:vX} (h:get no l=some x):(no,x)∈l:=by
 unfold Go.Ct.get at h;cases hf:l.find? _ with
 |none=>rw[hf] at h;cases h
 |some t=>
  grind
theorem y6 {l:IV} (h:no∉l.map (·.1)):get no l=none:=by
 grind[Go.Ct.get]
theorem aGi {l:IV} {x:vX} (h:no∉l.map (·.1)):get no (l++[(no,x)])=some x:=by
 grind[y6,Go.Ct.get]
structure tU (ways:Nat) (l:IV):Prop where
 len:l.length<=ways
 st:∀t∈l,1<=t.2.st/\t.2.st<=4
 nd:(l.map (·.1)).Nodup
theorem tU.zM {ways:Nat} {l:IV} (h:tU ways l):tU ways (Go.Ct.zM no l):=
 ⟨cL zK.length_le h.len,fun t a=>h.st t<|zK.mem a,(zK.map _).nodup h.nd⟩
theorem tU.app {ways:Nat} {l:IV} {x:vX} (h:tU ways l) (e:l.length<ways) (g:1<=x.st/\x.st<=4) (f:no∉l.map (·.1)):tU ways (l++[(no,x)]):=
 ⟨FX,fun t b=>by
  rcases cg.1 b with a|a;exact h.st t a;grind,by
  rw[l4,EL];refine⟨h.nd,FW,?_⟩;grind⟩
def Pl (n:Nat) (S:Nat->IV):Prop:=∀i t,t∈S i->0<=t.1/\cU n t.1=i
theorem M6 (h:Pl n S):Pl n (jQ n S no):=by
 intro i t a;unfold jQ at a;split at a;exact h i t a;unfold bA at a;split at a;rename_i e;subst e;exact h _ t<|zK.mem a;exact h i t a
theorem Su {ways:Nat} {x:vX} (f:0<=no) (h:Pl n S):Pl n (pB n ways S no x).1:=by
 intro i t a;unfold pB at a;split at a;unfold bA at a;dsimp only at a;split at a;rename_i e;subst e;exact h _ t<|zK.mem a;exact h i t a;unfold bA at a;dsimp only at a;split at a;rename_i e;subst e;rcases cg.1 a with b|b;exact h _ t<|zK.mem b;grind;exact h i t a
structure nT (n ways:Nat) (s:jR):Prop where
 aU:∀i,tU ways<|s.S i
 vO:s.uD=true->0<=s.gc.st/\s.gc.st<=4
 pl:Pl n s.S
theorem wY (h:∀i,tU ways<|S i):∀i,tU ways (jQ n S no i):=by
 intro i;unfold jQ;split;exact h i;unfold bA;split;exact(h _).zM;exact h i
def Hn {x:vX} (a:1<=x.st/\x.st<=4) (h:∀i,tU ways<|S i):∀i,tU ways ((pB n ways S no x).1 i):=by
 intro i;unfold pB;split;unfold bA;dsimp only;split;exact(h _).zM;exact h i;unfold bA;dsimp only;split;exact((h<|cU n no).zM).app FQ a (Q4 (h _).nd);exact h i
theorem uR (h:∀i,tU ways<|S i) (a:(bJ n S l).2=0):1<=(bJ n S l).1.st/\(bJ n S l).1.st<=4:=by
 unfold bJ at a ⊢;split at a;cases a;rename_i b;rw[bD1 b];cases hg:get l _ with
 |none=>grind
 |some x=>exact(h _).st _ (R3 hg)
theorem aLn (h:∀i,tU ways<|S i):∀i,tU ways (Gh n ways S no i):=by
 intro i;unfold Gh;split;rename_i a;exact Hn (uR h a) (wY h) i;grind[wY]
theorem uv (a:(bJ n S no).2=0):0<=no:=by
 grind[bJ]
theorem aSs (h:Pl n S):Pl n (Gh n ways S no):=by
 grind[Gh,Su,uv,M6]
def nT.bd (h:nT n ways s) (a:ways<=4):Bd s:=fun i=>cL (h.aU i).len a
def nT.sts (h:nT n ways s):Sts n s:=⟨fun l b=>by have:=uR h.aU b;omega,fun a=>by have:=h.vO a;omega⟩
def ik:nT n ways jR.kT:=⟨fun _=>⟨og _,(fun _ h=>FZ),DF⟩,(fun h=>FZ),fun _ _ h=>FZ⟩
abbrev iH (C:bQ) (s:jR):Prop:=nT C.aU.toNat C.ways.toNat s
def aCx {wr:Bool} (h:iH C s):iH C (fY C core s l w wr).1:=by
 unfold fY;split;exact h;split;exact h;split;exact h;split;exact h;unfold Ag;split;exact⟨h.aU,h.vO,h.pl⟩;split;exact h;split;exact⟨wY h.aU,h.vO,M6 h.pl⟩;rename_i v _ _ a;exact⟨wY h.aU,fun _=>(by have:=uR h.aU GR;exact⟨by show 0<=(bJ C.aU.toNat s.S v.1).1.st;omega,this.2⟩),M6 h.pl⟩
theorem Hi {to:Int} (a:0<=x/\x<=4):0<=kL x to/\kL x to<=4:=by
 grind[kL,Rm]
variable {nt:aG}
theorem Xe (f:nt.kind=8->1<=nt.state/\nt.state<=4) (h:iH C s):iH C (fP C core s nt).1:=by
 unfold fP;split;rename_i b;split;exact h;have a:=(c8 (by grind:vK C nt.aI=true)).1;unfold vM;split;exact h;split;exact h;split;exact⟨Hn (f b) h.aU,h.vO,Su a h.pl⟩;exact⟨Hn (f b) h.aU,h.vO,Su a h.pl⟩
 .split;split;exact h;unfold Bm;split;exact h;split;exact h;exact⟨h.aU,h.vO,h.pl⟩
  .split;split;exact h;unfold rU;split;exact h;split;exact h;exact⟨h.aU,FR,h.pl⟩
   .split
    .split;exact h
     .unfold lK;split;exact h
      .split
       .rename_i e;have g:=uR h.aU e;refine⟨?_,h.vO,?_⟩;rotate_left;split;exact M6 h.pl;exact Su (uv e) h.pl;split;exact wY h.aU;exact Hn (by have:=Hi (x:=(bJ C.aU.toNat s.S nt.aI).1.st) (to:=nt.state) FQ;grind) h.aU
       split;exact h;split;exact h;exact⟨h.aU,(fun _=>Hi<|h.vO FR),h.pl⟩
    exact h
def Iv {b:Int} (h:iH C s):iH C (pG C s l a b):=by
 unfold pG;split;exact⟨aLn h.aU,h.vO,aSs h.pl⟩;exact h
theorem Vn {e:Int} (h:iH C s):iH C (mQ C s l a e v):=by
 unfold mQ;split;rename_i b;exact⟨Hn (by simp[J3]) h.aU,h.vO,Su (xB b).1.1 h.pl⟩;exact h
theorem aI5 {wr:Bool}:(fY C core s l w wr).2.1.length<=2:=by
 grind[fY,Ag,tV]
theorem aKt:(fP C core s nt).2.1.length<=1:=by
 grind[fP,vM,Bm,rU,lK]
end Go.Ct
variable {k:Nat}
namespace Go.Nt
open Go.Hm
def w8:List (List UInt8×Int×FK):=[
 ([],0,[0,0,0,0,0,0,0]),
  ([103,101,116,115],0,[1,2,3,0,0,0,0]),
  ([103,101,116,109],0,[1,2,3,0,0,0,0]),
  ([112,117,116],0,[1,2,4,8,9,10,0]),
  ([100,111,110,101],1,[1,2,0,0,0,0,0]),
  ([114,101,112,108,121],1,[1,2,5,8,9,10,11]),
  ([119,97,108,107],0,[1,12,0,0,0,0,0]),
  ([100,114,111,112,112,101,100],1,[1,13,0,0,0,0,0]),
  ([103,114,97,110,116],2,[1,2,4,6,8,9,0]),
  ([110,97,99,107],2,[1,2,11,0,0,0,0]),
  ([112,117,116,97,99,107],2,[1,2,0,0,0,0,0]),
  ([112,114,111,98,101],3,[1,2,7,0,0,0,0]),
  ([119,97,108,107,101,100],2,[1,8,9,12,0,0,0]),
  ([100,114,111,112],3,[1,13,0,0,0,0,0])]
def aQo (r:List UInt8×Int×FK):FJ:= .string ⟨r.1.toArray⟩::I r.2.1::r.2.2.map I
def El:FJ:=w8.flatMap aQo
def aGy (k:Nat):FK:=(w8.getD k ([],0,[])).2.2
def Xf (k:Nat):Int:=(w8.getD k ([],0,[])).2.1
def ws (arr:FK):Nat->Nat->FK
 |0,_=>[]
 |f+1,i=>if arr.getD i 0=0 then [] else arr.getD i 0::ws arr f (i+1)
def Jd (k:Nat):FK:=ws (aGy k) 7 0
def k14 (h:k<14):k=0\/k=1\/k=2\/k=3\/k=4\/k=5\/k=6\/k=7\/k=8\/k=9\/k=10\/k=11\/k=12\/k=13:=FQ
def ti (h:k<14):El[k*9+1]?=some (I<|Xf k):=by
 rcases k14 h with rfl|rfl|rfl|rfl|rfl|rfl|rfl|rfl|rfl|rfl|rfl|rfl|rfl|rfl<;>rfl
def aEj (h:k<14):(El.drop<|k*9+2).take 7=(aGy k).map I:=by
 rcases k14 h with rfl|rfl|rfl|rfl|rfl|rfl|rfl|rfl|rfl|rfl|rfl|rfl|rfl|rfl<;>rfl
def zx (h:k<14):(aGy k).length=7:=by
 rcases k14 h with rfl|rfl|rfl|rfl|rfl|rfl|rfl|rfl|rfl|rfl|rfl|rfl|rfl|rfl<;>rfl
theorem aDs:El.length=126:=HR
def aOv (h:k<14):∀f∈Jd k,1<=f/\f<=13:=by
 rcases k14 h with rfl|rfl|rfl|rfl|rfl|rfl|rfl|rfl|rfl|rfl|rfl|rfl|rfl|rfl<;>decide
def f13 {f:Int} (h:1<=f/\f<=13):f=1\/f=2\/f=3\/f=4\/f=5\/f=6\/f=7\/f=8\/f=9\/f=10\/f=11\/f=12\/f=13:=FQ
def Nv (k:Int):Prop:=1<=k/\k<14
instance (k:Int):Decidable (Nv k):=by unfold Nv;infer_instance
def Cn (n:aG) (f:Int):Int:=
 if f=1 then n.core else if f=2 then n.aI else if f=3\/f=4 then n.aY else if f=5\/f=6\/f=7 then n.state else if f=8 then n.d0 else if f=9 then n.d1
 else if f=10 then(if n.oS=true then 1 else 0) else n.no
def F8 (n:aG) (f v:Int):aG:=
 if f=1 then {n with core:=v} else if f=2 then {n with aI:=v} else if f=3\/f=4 then {n with aY:=v} else if f=5\/f=6\/f=7 then {n with state:=v} else if f=8 then {n with d0:=v} else if f=9 then {n with d1:=v}
 else if f=10 then {n with oS:=decide (v≠0)} else {n with no:=v}
def C6 (C:bQ) (f v:Int):Prop:=
 if f=1 then 0<=v/\v<C.aB else if f=2 then 0<=v/\v<C.aF else if f=3 then 0<=v/\v<=3 else if f=4 then 0<=v/\v<=4 else if f=5 then 0<=v/\v<=4
 else if f=6 then v=1\/v=2\/v=4 else if f=7 then v=0\/v=1 else if f=10\/f=11 then v=0\/v=1 else if f=12 then 0<=v/\v<20 else if f=13 then 0<=v/\v<C.aM else True
instance (C:bQ) (f v:Int):Decidable (C6 C f v):=by unfold C6;infer_instance
def jM (C:bQ) (n:aG):FK->aG->Bool×aG
 |[],a=>(true,a)
 |f::b,a=>if C6 C f (Cn n f) then jM C n b (F8 a f<|Cn n f) else(false,a)
def sA (k:Int):aG:={aG.zero with kind:=k}
def gG (C:bQ) (n:aG):Int:=
 if Nv n.kind then(if C.Ok then(if(jM C n (Jd n.kind.toNat)<|sA n.kind).1=true/\(jM C n (Jd n.kind.toNat)<|sA n.kind).2=n then 0 else 10) else 10) else 15
end Go.Nt
namespace Go.Mc
open Go.Hm Go.At Go.Is Go.Ct Go.Nt
structure mV where
 owner:Int
 lB:Bool
 deriving DecidableEq
abbrev JH:=List mV
def mV.enc (x:mV):FJ:=[I x.owner,.bool x.lB]
def qF:mV:=⟨0,false⟩
def lN (n g:Int):Int:=(n+3)/4+g
def Z6 (x:mV):Int:=if x.lB then x.owner+8 else x.owner
def O6 (es:JH) (j:Nat):Bool:=((es.drop<|4*j).take 4).all fun x=>decide<|x=⟨(es.getD (4*j) qF).owner,false⟩
def Wf (es:JH) (j:Nat):Int:=if O6 es j then 4*(es.getD (4*j) qF).owner else 4*lN es.length (4*j:Nat)+1
def pO (es:JH):FK:=(List.range<|(es.length+3)/4).map (Wf es)++es.map Z6
def kM (es:JH) (at':Int):Int×Int:=if 0<=at'/\at'<(pO es).length then((pO es).getD at'.toNat 0,0) else(0,10)
def Hv (o:Int):Bool:=decide<|0<=o/\o<=4
def lU (n g at' dD:Int):Int×mV×Bool×Int:=
 if ¬((1<=n/\n<=16)/\(0<=g/\g<n)) then(0,qF,false,10)
 else if at'=g/4 then
  if dD=4*lN n (g/4*4)+1 then(lN n g,qF,false,0)
  else if dD % 4=0/\Hv (dD/4)=true then(0,⟨dD/4,false⟩,true,0)
  else(0,qF,false,14)
 else if at'=lN n g then
  if Hv dD=true then(0,⟨dD,false⟩,true,0)
  else if 8<=dD/\Hv (dD - 8)=true then(0,⟨dD - 8,true⟩,true,0)
  else(0,qF,false,14)
 else(0,qF,false,10)
structure jO where
 dM:Bool
 aR:Int
 at':Int
 kG:Bool
 bL:List (Int×Int)
def Ov:jO:=⟨false,0,0,false,[]⟩
def fA (x:Int×Int):FJ:=[I x.1,I x.2]
def jC (l:List (Int×Int)) (g:Int):Option Int:=(l.find? fun x=>decide<|x.1=g).map (·.2)
def jO.uC (c:jO) (C:bQ) (aY g:Int):Int×Int:=
 if(0<=g/\g<C.aM)/\(0<=aY/\aY<=3) then
  match jC c.bL g with
  |none=>(3,0)
  |some o=>if yM aY o then(1,0) else(2,0)
 else(0,10)
def jO.A3 (c:jO) (g:Int):jO:={c with dM:=true,aR:=g,at':=g/4,kG:=false}
def jO.dJ (c:jO) (C:bQ) (g:Int):jO×Int×Int:=
 if ¬(0<=g/\g<C.aM) then(c,0,10)
 else if(jC c.bL g).isSome then(c,0,13)
 else if c.dM then(c,0,16)
 else(c.A3 g,g/4,0)
def jO.Bu (c:jO) (C:bQ) (f:Int×Int):jO:={c with bL:=(if(c.bL.length:Int)>=C.mU then c.bL.drop 1 else c.bL)++[f]}
def jO.goto (c:jO) (a:Int):jO:={c with at':=a}
def jO.iD (c:jO):jO:={c with kG:=false,at':=c.aR/4}
def jO.done (c:jO):jO:={c with dM:=false,aR:=0,at':=0,kG:=false}
def jO.fM (c:jO) (C:bQ) (at' dD:Int):jO×Int×Bool×Int:=
 if c.dM=false then(c,0,false,16)
 else if at'≠c.at' then(c,0,false,1)
 else if c.kG then(c.iD,c.aR/4,false,0)
 else
  let r:=lU C.aM c.aR at' dD
  if r.2.2.2≠0 then(c,0,false,r.2.2.2)
  else if r.2.2.1=true/\r.2.1.lB=true then(c.goto<|c.aR/4,c.aR/4,false,0)
  else if r.2.2.1=false then(c.goto r.1,r.1,false,0)
  else((c.Bu C (c.aR,r.2.1.owner)).done,0,true,0)
def jO.drop (c:jO) (C:bQ) (g:Int):jO×Int:=
 if g< -1\/g>=C.aM then(c,10)
 else({c with bL:=c.bL.filter fun x=> !decide (g= -1\/x.1=g),kG:=c.kG||(c.dM&&decide (g= -1\/c.aR=g))},0)
structure mP where
 core:Int
 aY:Int
 call:Int
 aR:Int
 to:Int
 kB:Int
 oD:Bool
 phase:Int
 aH:Nat->Bool
def mP.enc (r:mP):FJ:=[I r.core,I r.aY,I r.call,I r.aR,I r.to,I r.kB,.bool r.oD,I r.phase,.bool<|r.aH 0,.bool<|r.aH 1,.bool<|r.aH 2,.bool<|r.aH 3]
structure Mon where
 eU:JH
 eI:Nat->Option mP
def Mon.oL (m:Mon) (g:Nat) (x:mV):Mon:={m with eU:=m.eU.set g x}
def Mon.dL (m:Mon) (g:Nat) (x:Option mP):Mon:={m with eI:=bA m.eI g x}
def Mon.kJ (m:Mon) (g:Int):Prop:=0<=g/\g<m.eU.length
instance (m:Mon) (g:Int):Decidable (m.kJ g):=by unfold Mon.kJ;infer_instance
def Mon.jX (m:Mon) (g:Int):mV:=m.eU.getD g.toNat qF
def Mon.run (m:Mon) (g:Int):Option mP:=if 0<=g then m.eI g.toNat else none
def Mon.phase (m:Mon) (g:Int):Int:=match m.run g with
 |some r=>r.phase
 |none=>0
def Mon.fO (m:Mon):FL:=(List.range 16).filter fun g=>(m.eI g).isSome
def Mon.qR (m:Mon) (core:Int) (g:Nat):Bool:=match m.eI g with
 |some r=>decide (r.core=core)
 |none=>false
def Mon.gZ (m:Mon) (core:Int):Bool:=m.fO.any<|m.qR core
structure Np where
 core:Int
 aY:Int
 call:Int
 aR:Int
 to:Int
def Np.enc (a:Np):FJ:=[I a.core,I a.aY,I a.call,I a.aR,I a.to]
def Np.run (a:Np) (aB:Int) (j:Int×Bool×Int):mP:=⟨a.core,a.aY,a.call,a.aR,a.to,j.1,j.2.1,1,fun i=>decide<|(i:Int)<aB⟩
def Mon.call (m:Mon) (aB:Int) (a:Np):Mon×Bool×Int:=
 if ¬(0<=a.core/\a.core<aB) then(m,false,1)
 else if ¬m.kJ a.aR then(m,false,10)
 else if m.phase a.aR≠0 then(m,false,17)
 else if m.gZ a.core then(m,false,13)
 else
  let j:=jK a.call a.aY (m.jX a.aR).owner a.to
  if j.2.2≠0 then(m,false,j.2.2)
  else((m.oL a.aR.toNat ⟨(m.jX a.aR).owner,true⟩).dL a.aR.toNat<|some<|a.run aB j,true,0)
def mP.none (r:mP):Bool:= !(r.aH 0||r.aH 1||r.aH 2||r.aH 3)
def mP.dA (r:mP) (core:Int):mP:={r with aH:=mE r.aH core false}
def mP.gX (r:mP):mP:={r with phase:=if r.none then 2 else r.phase}
def Mon.eE (m:Mon) (aB g core:Int):Mon×Bool×Int:=
 if ¬m.kJ g then(m,false,10)
 else match m.run g with
  |none=>(m,false,16)
  |some r=>
   if r.phase≠1 then(m,false,16)
   else if ¬(0<=core/\core<aB)\/r.aH core.toNat=false then(m,false,12)
   else(m.dL g.toNat<|some (r.dA core).gX,(r.dA core).none,0)
def Mon.over (m:Mon) (g:Int):Mon×Option mP×Int:=
 if ¬m.kJ g then(m,none,10)
 else match m.run g with
  |none=>(m,none,16)
  |some r=>
   if r.phase≠2 then(m,none,16)
   else((m.oL r.aR.toNat ⟨r.kB,false⟩).dL g.toNat none,some r,0)
def aQ.kO (s:aQ):Option iW:=if s.over then none else some (mW s.prog s.at')
def aQ.ev (s:aQ) (i:Nat) (x:iW) (dD value code:Int):Ev:=⟨i,s.at',x.op,s.aY,dD,value,code⟩
def aQ.lI (s:aQ) (i:Nat):Option (aQ×Ev):=
 match aQ.kO s with
 |none=>none
 |some x=>
  if x.op=1 then some ((s.dL x.a x.b).jA<|s.at'+1,aQ.ev s i x 0 x.b 0)
  else if x.op=2 then some ((s.dL x.a<|wr<|s.dK x.b.toNat+s.dK x.c.toNat).jA<|s.at'+1,aQ.ev s i x 0 (wr<|s.dK x.b.toNat+s.dK x.c.toNat) 0)
  else if x.op=6 then some (s.jA<|s.at'+1,aQ.ev s i x 0 0 0)
  else if x.op=7 then(if s.aY=0 then some ((s.Zc x.a).jA<|s.at'+1,aQ.ev s i x 0 x.a 0) else some (s.jA<|s.at'+1,aQ.ev s i x 0 x.a 18))
  else if x.op=9 then some (s.jA x.a,aQ.ev s i x 0 x.a 0)
  else if x.op=10 then some (s.jA<|if s.dK x.a.toNat=0 then x.b else s.at'+1,aQ.ev s i x 0 (s.dK x.a.toNat) 0)
  else none
def Qo (op:Int):Bool:=decide<|op=3\/op=4\/op=5
structure vT where
 dD:Int
 iV:Bool
 F4:Bool
 value:Int
def aQ.iG (s:aQ):Option vT:=
 match aQ.kO s with
 |none=>none
 |some x=>if Qo x.op then some ⟨s.dK x.b.toNat,decide<|x.op≠3,decide<|x.op≠4,if x.op=3 then 0 else s.dK x.a.toNat⟩ else none
def aQ.xW (s:aQ) (i:Nat):Option Np:=
 match aQ.kO s with
 |none=>none
 |some x=>if x.op=8 then some ⟨i,s.aY,x.a,s.dK x.b.toNat,s.dK x.c.toNat⟩ else none
def aQ.bK (s:aQ) (i:Nat) (value code:Int):aQ×Ev×Int:=
 match aQ.kO s with
 |none=>(s,Ns,16)
 |some x=>
  if x.op=8 then((s.dL x.b code).jA<|s.at'+1,aQ.ev s i x (s.dK x.b.toNat) (s.dK x.c.toNat) code,0)
  else if Qo x.op then
   if code≠0/\code≠19 then(s,Ns,1)
   else if code=19 then(s.jA<|s.at'+1,aQ.ev s i x (s.dK x.b.toNat) 0 19,0)
   else if x.op=4 then(s.jA<|s.at'+1,aQ.ev s i x (s.dK x.b.toNat) (s.dK x.a.toNat) 0,0)
   else((s.dL x.a value).jA<|s.at'+1,aQ.ev s i x (s.dK x.b.toNat) value 0,0)
  else(s,Ns,16)
abbrev eO:=Nat->Nat->IT
def cQ (n:aG):Nat:=(Xf n.kind.toNat).toNat
def eO.set (F:eO) (c w:Nat) (l:IT):eO:=fun a b=>if a=c/\b=w then l else F a b
def eO.A9 (F:eO) (n:aG):eO:=F.set n.core.toNat (cQ n)<|F n.core.toNat (cQ n)++[n]
def eO.sE (d:Int):eO->IT->Option eO
 |F,[]=>some F
 |F,n::l=>if((F n.core.toNat<|cQ n).length:Int)<d then eO.sE d (F.A9 n) l else none
def aT (C:bQ):IT->Int
 |[]=>0
 |n::l=>if gG C n≠0 then gG C n else aT C l
def eO.gJ (C:bQ) (F:eO) (l:IT):eO×Int:=
 if aT C l≠0 then(F,aT C l) else match eO.sE C.eR F l with
  |some a=>(a,0)
  |none=>(F,11)
def eO.take (C:bQ) (F:eO) (core a b:Int):eO×aG×Int:=
 if ¬((0<=core/\core<C.aB)/\(0<=a/\a<4)) then(F,aG.zero,10)
 else
  let l:=F core.toNat a.toNat
  if l=[] then(F,aG.zero,12)
  else
   let i:=(b % (l.length:Int)).toNat
   (F.set core.toNat a.toNat<|l.eraseIdx i,l.getD i aG.zero,0)
structure bU where
 aD:Nat->aQ
 bR:Nat->jR
 aT:Nat->jO
 aJ:nC
 bH:Mon
 cD:eO
 eF:JG
abbrev bU.oZ (M:bU) (i:Nat) (s:aQ):bU:={M with aD:=bA M.aD i s}
abbrev bU.kC (M:bU) (i:Nat) (s:jR):bU:={M with bR:=bA M.bR i s}
abbrev bU.eP (M:bU) (i:Nat) (s:jO):bU:={M with aT:=bA M.aT i s}
abbrev bU.mJ (M:bU) (h:nC):bU:={M with aJ:=h}
abbrev bU.jI (M:bU) (m:Mon):bU:={M with bH:=m}
abbrev bU.bM (M:bU) (l:eO):bU:={M with cD:=l}
abbrev bU.Zv (M:bU) (v:Ev):bU:={M with eF:=M.eF++[v]}
def cN (kind:Int) (core:Int) (no:Int):aG:={aG.zero with kind:=kind,core:=core,no:=no}
def nZ (core dD no:Int):aG:={cN 12 core no with d0:=dD}
variable (C:bQ)
def bU.aH (M:bU) (i:Int):Bool:=M.bH.gZ i
def bU.bK (M:bU) (i:Nat) (value code:Int):bU×Int:=
 let r:=aQ.bK (M.aD i) i value code
 if r.2.2≠0 then(M,r.2.2) else((M.oZ i r.1).Zv r.2.1,0)
def sB (aB g:Int):IT:=(List.range aB.toNat).map fun i:Nat=>cN 13 i g
def bU.call (M:bU) (i:Nat) (a:Np):bU×Int:=
 let r:=M.bH.call C.aB a
 if r.2.2≠0 then M.bK i 0 r.2.2
 else
  let s:=M.cD.gJ C<|sB C.aB a.aR
  if s.2≠0 then(M,s.2) else((M.bM s.1).jI r.1,0)
def bU.Bk (M:bU) (i:Nat) (g:Int):bU×Int:=
 let r:=(M.aT i).dJ C g
 if r.2.2≠0 then(M,r.2.2)
 else
  let s:=M.cD.gJ C [cN 6 i r.2.1]
  if s.2≠0 then(M,s.2) else((M.bM s.1).eP i r.1,0)
def bU.fY (M:bU) (i:Nat) (aI:Int) (iV:Bool):bU×Int:=
 let r:=Ct.fY C i (M.bR i) aI (M.aD i).aY iV
 if r.2.2≠0 then(M,r.2.2)
 else
  let s:=M.cD.gJ C r.2.1
  if s.2≠0 then(M,s.2) else((M.bM s.1).kC i r.1,0)
def bU.bL (M:bU) (i:Nat) (g:Int):Int:=(jC (M.aT i).bL g).getD 0
def aYd (d:Ln) (a:Int):Int:=if a=0 then d.1 else d.2
def Iu (c:jR) (l a:Int):Int:=aYd (bJ C.aU.toNat c.S l).1.d a
def bU.kD (M:bU) (i:Nat) (aI at' owner:Int) (a:vT):bU×Int:=
 let b:=if a.F4 then pG C (M.bR i) aI at' owner else M.bR i
 let c2:=if a.iV then mQ C b aI at' owner a.value else b
 (M.kC i c2).bK i (if a.F4 then Iu C (M.bR i) aI at' else 0) 0
def bU.eK (M:bU) (i:Nat) (a:vT):bU×Int:=
 if ¬(0<=a.dD/\a.dD<C.aF*2) then M.bK i 0 19
 else
  let aI:=a.dD/2
  let g:=aI/2
  let r:=(M.aT i).uC C (M.aD i).aY g
  if r.2≠0 then(M,r.2)
  else if r.1=3 then M.Bk C i g
  else if r.1=2 then M.bK i 0 19
  else if pK C.aU.toNat (M.bR i).S aI (M.bL i g) a.iV=false then M.fY C i aI a.iV
  else M.kD C i aI (a.dD % 2) (M.bL i g) a
def bU.step (M:bU) (A:Int):bU×Int:=
 if ¬(0<=A/\A<C.aB) then(M,10)
 else
  let i:=A.toNat
  if(M.aD i).over then(M,20)
  else if M.aH A then(M,16)
  else match aQ.lI (M.aD i) i with
   |some r=>((M.oZ i r.1).Zv r.2,0)
   |none=>match aQ.xW (M.aD i) i with
    |some a=>M.call C i a
    |none=>match aQ.iG (M.aD i) with
     |some a=>M.eK C i a
     |none=>(M,16)
def oE (H:nC) (g:Int):nC:=(jT C (jT C H<|g*2).1<|g*2+1).1
def bU.dF (M:bU) (n:aG):bU×IT×Int:=
 if n.kind=1\/n.kind=2\/n.kind=3\/n.kind=4\/n.kind=5 then
  let r:=eW C M.aJ n
  (M.mJ r.1,r.2.1,r.2.2)
 else if n.kind=8\/n.kind=9\/n.kind=10\/n.kind=11 then
  let r:=fP C n.core (M.bR n.core.toNat) n
  (M.kC n.core.toNat r.1,r.2.1,r.2.2)
 else if n.kind=6 then
  let r:=kM M.bH.eU n.no
  (M,[nZ n.core r.1 n.no],r.2)
 else if n.kind=12 then
  let r:=(M.aT n.core.toNat).fM C n.no n.d0
  (M.eP n.core.toNat r.1,if r.2.2.1 then [] else [cN 6 n.core r.2.1],r.2.2.2)
 else if n.kind=13 then
  let r:=(M.aT n.core.toNat).drop C n.no
  (M.eP n.core.toNat r.1,[cN 7 n.core n.no],r.2)
 else if n.kind=7 then
  let r:=M.bH.eE C.aB n.no n.core
  (if r.2.1 then(M.jI r.1).mJ (oE C M.aJ n.no) else M.jI r.1,[],r.2.2)
 else(M,[],15)
def bU.dE (M:bU) (A B D:Int):bU×Int:=
 let t:=M.cD.take C A B D
 if t.2.2≠0 then(M,t.2.2)
 else
  let r:=M.dF C t.2.1
  if r.2.2≠0 then(M,r.2.2)
  else
   let s:=t.1.gJ C r.2.1
   if s.2≠0 then(M,s.2) else(r.1.bM s.1,0)
def bU.gE (M:bU) (aI:Int) (aY:Int):Int×Bool:=
 if C.kJ aI then((M.bH.jX<|aI/2).owner,!(M.bH.jX<|aI/2).lB&&yM aY (M.bH.jX<|aI/2).owner) else(0,false)
def bU.dJ (M:bU) (A:Int):bU×Int:=
 let r:=eQ C M.aJ A<|M.gE C A
 if r.2.2≠0 then(M,r.2.2)
 else
  let s:=M.cD.gJ C r.2.1
  if s.2≠0 then(M,s.2) else((M.bM s.1).mJ r.1,0)
def bT.E5 (r:bT):Int:=(if r.busy=true/\r.aX.kind=0 then 1 else 0)+((r.aH.filter fun n=>decide<|n.kind=0).length:Int)
def gO (H:nC) (l:Int):Int:=if C.kJ l then bT.E5 (H l.toNat).1 else 0
def bU.gX (M:bU) (g:Int):Bool:=decide (M.bH.phase g=2)&& !(decide<|gO C M.aJ (g*2)>0)&& !(decide<|gO C M.aJ (g*2+1)>0)
def nP (H:nC) (g:Int):nC:=fun i=>if(i:Int)=g*2\/(i:Int)=g*2+1 then((H i).1,(0,0)) else H i
def bU.gH (M:bU) (A:Int):bU×Int:=
 if ¬(0<=A/\A<C.aM) then(M,10)
 else if M.gX C A=false then(M,16)
 else
  let r:=M.bH.over A
  match r.2.1 with
  |none=>(M,r.2.2)
  |some u=>bU.bK (if u.oD then(M.jI r.1).mJ (nP M.aJ u.aR) else M.jI r.1) u.core.toNat 0 0
structure Do where
 mI:Int
 a:Int
 b:Int
 c:Int
 deriving DecidableEq
abbrev IY:=List Do
def Do.enc (d:Do):FJ:=[I d.mI,I d.a,I d.b,I d.c]
def bU.mC (M:bU) (d:Do):bU×Int:=
 if d.mI=0 then M.step C d.a else if d.mI=1 then M.dE C d.a d.b d.c else if d.mI=2 then M.dJ C d.a else if d.mI=3 then M.gH C d.a else(M,1)
def bU.Au (M:bU):IY->Nat->bU×Nat×Int
 |[],k=>(M,k,0)
 |d::l,k=>if(M.mC C d).2≠0 then((M.mC C d).1,k,(M.mC C d).2) else bU.Au (M.mC C d).1 l (k+1)
def bU.rh (M:bU):IT:=(List.range C.aB.toNat).flatMap fun c=>(List.range 4).flatMap fun w=>M.cD c w
def bU.over (M:bU):Bool:=
 decide (M.rh C=[])&&((List.range C.aB.toNat).all fun i=>(M.aD i).over&& !(M.bR i).pM&& !(M.aT i).dM)&&((List.range C.aF).all fun l=>decide<|(M.aJ l).1.aH=[])
def bU.ready (M:bU):IY:=
 ((List.range C.aB.toNat).filter fun i:Nat=> !(M.aD i).over&& !M.aH i).map (fun i:Nat=>(⟨0,i,0,0⟩:Do))++
 ((List.range C.aB.toNat).flatMap fun c=>((List.range 4).filter fun w=>decide<|M.cD c w≠[]).map fun w:Nat=>(⟨1,c,w,0⟩:Do))++
 ((List.range C.aF).filter fun l=> !(M.aJ l).1.busy&&decide ((M.aJ l).1.aH≠[])).map (fun l:Nat=>(⟨2,l,0,0⟩:Do))++
 ((List.range C.aM.toNat).filter fun g:Nat=>M.gX C g).map fun g:Nat=>(⟨3,g,0,0⟩:Do)
structure MC where
 C:bQ
 Av:List (IW)
 aIy:FK
 dG:FK
 tY:FK
def MC.Bf (c:MC):Int:=At.Bf c.C c.Av c.aIy c.dG c.tY
def MC.aJ (c:MC):nC:=fun i=>((sQ c.C.aF i).1,At.tY uB c.tY 0 i)
def MC.kT (c:MC):bU where
 aD:=fun i=>As (c.Av.getD i [])<|c.aIy.getD i 0
 bR:=fun _=>jR.kT
 aT:=fun _=>Ov
 aJ:=c.aJ
 bH:=⟨c.dG.map fun o=>⟨o,false⟩,fun _=>none⟩
 cD:=fun _ _=>[]
 eF:=[]
end Go.Mc
namespace Go.Ct
def aIt (s:Array UInt8) (a b c d:Bool) (x y z:Int):FJ:=[.string ⟨s⟩,.bool a,.bool b,.bool c,.bool d,I x,I y,I z]
def oO:FJ:=aIt #[73] false false false false 0 0 0++aIt #[83] true false false false 0 1 0++aIt #[69] true true false true 4 1 0++aIt #[79] true false true true 0 3 0++aIt #[77] true true true true 4 3 0
end Go.Ct
namespace Go.Ct
open Go.Hm
variable {S:Nat->IV}
variable {ways:Nat} {x:vX}
theorem Z3 {l:IV} (h:no∉l.map (·.1)):zM no l=l:=by
 induction l with
 |nil=>rfl
 |cons t l a=>
  grind[zM]
def aA1 {l:IV} (a:(l.map (·.1)).Nodup):zM no (zM no l)=zM no l:=Z3<|Q4 a
theorem R9 {l:IV} (h:get no l=some x):(zM no l).length<l.length:=by
 rw[Re,h];have:=R3 h;grind
theorem tJ (a:(bJ n S no).2=0):get no (S<|cU n no)=some (bJ n S no).1/\0<=no:=by
 grind[bJ]
theorem yG (b:∀i,tU ways<|S i) (e:(bJ n S no).2=0):(pB n ways S no x).2=0:=by
 obtain⟨a,f⟩:=tJ e;have:=R9 a;have:=(b<|cU n no).len;unfold pB;grind
theorem az (a:0<=no):jQ n S no (cU n no)=zM no (S<|cU n no):=by
 unfold jQ bA;simp_all[bD1,bD2]
def l8 (a:∀i,tU ways<|S i) (b:(bJ n S no).2=0):aJt n ways S no=0:=by
 obtain⟨e,f⟩:=tJ b;have:=R9 e;have:=(a<|cU n no).len;unfold aJt;rw[bD2 b];unfold pB;rw[az f,aA1 (a _).nd,aaa]
def Ad (b:∀i,tU ways<|S i) (f:0<=no) (a:(pB n ways S no x).2=0):bJ n (pB n ways S no x).1 no=(x,0):=by
 unfold pB at a ⊢;split at a;cases a;rename_i e;rw[bD1 e];unfold bJ bA;rw[aaa];dsimp only;rw[bD2 rfl,aGi<|Q4 (b _).nd]
theorem Hu (b:∀i,tU ways<|S i) (a:(bJ n S no).2=0):bJ n (Gh n ways S no) no=bJ n S no:=by
 obtain⟨g,f⟩:=tJ a;have e:=l8 b a;unfold aJt at e;rw[bD2 a] at e;unfold Gh;rw[bD2 a,Ad (wY b) f e];grind
theorem S3 {w:Bool} (h:pK n S l a w=true):pK n S l a false=true:=by
 grind[pK,sZ,Cm,Qc]
end Go.Ct
variable {st:Int} {j:Int->Int×Bool}
namespace Go.Hm
structure wF (k:Nat) (r:bT):Prop where
 core:0<=r.aX.core/\r.aX.core<4
 owner: -1<=r.owner/\r.owner<4
 aH:∀n∈r.aH,n.aI=k/\(0<=n.core/\n.core<4)/\(n.kind=0\/n.kind=1\/n.kind=2\/n.kind=3)
 jN:∀i:Nat,i<4->r.sh i=true->(i:Int)≠r.owner
 fY:r.busy=true->r.cJ=false->r.aX.kind=0\/r.aX.kind=2\/r.owner≠r.aX.core
 sD:r.cJ=true\/r.busy=false->r.kI=true
 gb:r.cJ=true->r.busy=true
variable {r:bT}
def wF.inv (h:wF k r):r.fT:=⟨h.core,h.owner,fun n a=>(h.aH n a).2.1⟩
def aRd (k:Nat):wF k Ep:=⟨FV,FV,by simp[Ep],by simp[Ep],by simp[Ep],fun _=>rfl,by simp[Ep]⟩
theorem H2 {r':bT} (h:r'.dQ=r.dQ):r'.kI=r.kI:=by grind[bT.kI]
theorem Gj (h:wF k r):wF k (r.iC c) where
 core:=h.core
 owner:=by unfold bT.iC;simp only;split;omega;exact h.owner
 aH:=h.aH
 jN:=fun i f a=>by
  unfold bT.iC mE at a ⊢;simp only at a ⊢;split at a;cases a;split;omega;exact h.jN i f a
 fY:=fun b e=>by
  rcases h.fY b e with h|h|g;exact .inl h;exact .inr<|.inl h;refine .inr<|.inr ?_;have:=h.core;grind[bT.iC]
 sD:=fun b=>(H2 (r':=r.iC c) rfl).trans<|h.sD b
 gb:=h.gb
def I2 (h:wF k r) (b:r.kI=true):wF k r.lA where
 core:=by show(0:Int)<=0/\(0:Int)<4;omega
 owner:=h.owner
 aH:=h.aH
 jN:=h.jN
 fY:=fun a=>by cases a
 sD:=fun _=>(H2 (r':=r.lA) rfl).trans b
 gb:=fun a=>by cases a
theorem Ii {n:aG} (h:wF k r) (a:n.aI=k) (b:0<=n.core/\n.core<4) (e:n.kind=0\/n.kind=1\/n.kind=2\/n.kind=3):wF k (r.lE n) where
 core:=h.core
 owner:=h.owner
 aH:=fun m hm=>by
  rcases cg.1 hm with hm|hm;exact h.aH m hm;grind
 jN:=h.jN
 fY:=h.fY
 sD:=fun a=>(H2 (r':=r.lE n) rfl).trans<|h.sD a
 gb:=h.gb
def Iy {n:aG} {w:IT} (h:wF k r) (e:r.aH=n::w):wF k (r.next w) where
 core:=h.core
 owner:=h.owner
 aH:=fun m b=>h.aH m (by rw[e];exact aW _ b)
 jN:=h.jN
 fY:=h.fY
 sD:=fun a=>(H2 (r':=r.next w) rfl).trans<|h.sD a
 gb:=h.gb
structure Jg (k:Nat) (r:bT):Prop where
 core:0<=r.aX.core/\r.aX.core<4
 owner: -1<=r.owner/\r.owner<4
 aH:∀n∈r.aH,n.aI=k/\(0<=n.core/\n.core<4)/\(n.kind=0\/n.kind=1\/n.kind=2\/n.kind=3)
 jN:∀i:Nat,i<4->r.sh i=true->(i:Int)≠r.owner
 fY:r.aX.kind=0\/r.aX.kind=2\/r.owner≠r.aX.core
 busy:r.busy=true
 gr:r.cJ=false
def Jg.aFr (h:Jg k r):wF k r:=⟨h.core,h.owner,h.aH,h.jN,fun _ _=>h.fY,fun a=>by rw[h.busy,h.gr] at a;simp at a,fun a=>by rw[h.gr] at a;cases a⟩
variable {d:Ln}
theorem D7 {aI:Int} (h:Jg k r) (f:r.aX.kind≠0) (b:r.kI=true):wF k (r.dW aI d).1:=by
 have g:=h.core;unfold bT.dW;split;exact⟨h.core,FR,h.aH,FR,FR,fun _=>b,fun _=>h.busy⟩;split;refine⟨h.core,FR,h.aH,fun i e a=>?_,FR,fun _=>b,fun _=>h.busy⟩;grind[mE];refine⟨h.core,h.owner,h.aH,fun i e a=>?_,FR,fun _=>b,fun _=>h.busy⟩;simp only[mE] at a ⊢;split at a;rcases h.fY with h|h|h;grind;grind;grind;exact h.jN i e a
def Ht {l:FL} (h:Jg k r):wF k (r.iO l):=Jg.aFr ⟨h.core,h.owner,h.aH,h.jN,h.fY,h.busy,h.gr⟩
variable {m:Ln}
theorem aEh {aI:Int} (h:Jg k r):wF k (r.rest aI m).1:=by
 unfold bT.rest;split;rename_i a;split;exact I2 h.aFr a;grind[D7];exact h.aFr
theorem Ke {n:aG} (h:wF k r) (p:0<=n.core/\n.core<4) (ha:r.dQ n.core.toNat=true):Jg k (r.dA n):=by
 have f:r.kI=false:=by
  have:n.core.toNat=0\/n.core.toNat=1\/n.core.toNat=2\/n.core.toNat=3:=FQ
  unfold bT.kI;grind
 have b:r.cJ=false:=by
  cases b:r.cJ with
  |false=>rfl
  |true=>have:=h.sD<|.inl b;grind
 have a:r.busy=true:=by
  cases a:r.busy with
  |true=>rfl
  |false=>have:=h.sD<|.inr a;grind
 have e:Jg k (r.iE n):=⟨h.core,h.owner,h.aH,h.jN,h.fY a b,a,b⟩;have g:Jg k ((r.iE n).Kl n):=⟨h.core,by show -1<=(-1:Int)/\(-1:Int)<4;omega,h.aH,fun i o _=>by show(i:Int)≠ -1;omega,by
  have:=h.core;right;right;show(-1:Int)≠r.aX.core;omega,a,b⟩
 have j:∀{r:bT},Jg k r->Jg k (r.qJ n):=fun h=>⟨h.core,h.owner,h.aH,h.jN,h.fY,h.busy,h.gr⟩;unfold bT.dA;split;have:=Gj (c:=n.core) e.aFr;exact⟨this.core,this.owner,this.aH,this.jN,this.fY a b,a,b⟩;grind
theorem aD6 {x:iN} {n:aG} (h:wF k x.1) (f:dF n.kind) (e:n.aI=k) (b:0<=n.core/\n.core<4):wF k (iN.take x k n).1.1:=by
 unfold iN.take;split;split;exact h;have a:x.1.cJ=true:=by
  cases a:x.1.cJ with
  |true=>rfl
  |false=>grind
 exact I2 h<|h.sD<|.inl a;split;split;exact h;exact aEh<|Ke h b FR;grind[Ii,dF]
theorem Qj:∀(f i:Nat),r.Az x f i≠ -1->r.jV x f i≠[]:=by
 intro f;induction f with
 |zero=>intro i h;exact absurd rfl h
 |succ f a=>
  grind[bT.Az,bT.jV]
theorem j6:∀(f i:Nat),∀c∈r.jV x f i,(c:Int)≠x:=by
 intro f;induction f with
 |zero=>grind[bT.jV]
 |succ f a=>
  grind[bT.jV,bT.mS]
def aG.Cx (n:aG):aG:=if n.kind=0 then {n with core:= -1} else n
theorem Vb {n:aG} (f:r.aX.core=n.core) (b:n.kind=1\/n.kind=2) (e:n.aI=k):(∀m∈(r.dW k d).2,m.aRb n.Cx (r.dW k d).2.length)/\(r.dW k d).2≠[]:=by
 have g:n.Cx=n:=HV
 rw[g];unfold bT.dW;split;refine⟨fun m a=>?_,FW⟩;rw[aV.1 a];exact⟨e.symm,rfl,.inl ⟨rfl,f,rfl,b⟩⟩;split;refine⟨fun m a=>?_,FW⟩;rw[aV.1 a];exact⟨e.symm,rfl,.inl ⟨rfl,f,rfl,b⟩⟩;refine⟨fun m a=>?_,FW⟩;rw[aV.1 a];exact⟨e.symm,rfl,.inl ⟨rfl,f,rfl,b⟩⟩
theorem Hl {n:aG} {l:FL} (e:n.aI=k) (h:n.kind=1\/n.kind=2\/(n.kind=0/\st=0)) (hc:∀c∈l,(c:Int)≠n.Cx.core) {len:Nat}:∀m∈eT k st l,m.aRb n.Cx len:=by
 intro m f;obtain⟨c,a,rfl⟩:=gk.1 f;have b:n.Cx.aI=k:=by unfold aG.Cx;split<;>exact e
 have g:n.Cx.kind=n.kind:=by unfold aG.Cx;split<;>rfl
 refine⟨b.symm,rfl,.inr<|.inr<|.inr ⟨rfl,rfl,hc c a,?_⟩⟩;grind
theorem aNz {n:aG} (h:wF k r) (hb:r.busy=false) (g:n.aI=k) (i:0<=n.core/\n.core<4) (t:n.kind=1\/n.kind=2):
  wF k (r.get k m n w).1/\(∀x∈(r.get k m n w).2,x.aRb n.Cx (r.get k m n w).2.length)/\(r.get k m n w).2≠[]:=by
 have u:=h.sD<|.inr hb
 have a:r.cJ=false:=by
  cases a:r.cJ with
  |false=>rfl
  |true=>have:=h.gb a;grind
 have j:n.Cx=n:=HV
 unfold bT.get
 simp only
 split
 .rename_i q;have o:Jg k (r.iL n w):=⟨i,h.owner,h.aH,h.jN,.inr<|.inl q,rfl,a⟩;unfold bT.La;split
  .rename_i b;refine⟨Ht o,?_,?_⟩
   .exact Hl g FQ (fun c f=>by rw[j];exact j6 4 0 c f)
   .intro e;exact(Qj 4 0 b) (List.map_eq_nil_iff.1 e)
  .exact⟨D7 o (by show n.kind≠0;omega) u,Vb rfl t g⟩
 .have v:(r.iL n w).jY.aX=n/\(r.iL n w).jY.dQ=r.dQ/\((r.iL n w).jY.owner= -1\/((r.iL n w).jY.owner=r.owner/\r.owner≠n.core))/\Jg k (r.iL n w).jY:=by
   unfold bT.jY;split;refine⟨rfl,rfl,.inl rfl,⟨i,FR,h.aH,FR,.inr<|.inr ?_,rfl,a⟩⟩;show(-1:Int)≠n.core;omega;rename_i b;exact⟨rfl,rfl,.inr ⟨rfl,b⟩,⟨i,h.owner,h.aH,h.jN,.inr<|.inr b,rfl,a⟩⟩
  obtain⟨y,z,A,p⟩:=v
  unfold bT.J2
  split
  .refine⟨Ht p,Hl g (.inl FQ) fun c f=>?_,by simp[eT]⟩;rw[aV.1 f,j];have:=p.owner;omega
  grind[D7,H2,Vb]
theorem aEl {n:aG} (h:wF k r) (hb:r.busy=false) (f:n.aI=k) (p:0<=n.core/\n.core<4) (q:n.kind=0\/n.kind=1\/n.kind=2\/n.kind=3):
  wF k (r.eY k m n j).1.1/\(∀x∈(r.eY k m n j).2,x.aRb n.Cx (r.eY k m n j).2.length)/\((r.eY k m n j).2≠[]\/n.Cx.kind=0):=by
 have e:r.cJ=false:=by
  cases e:r.cJ with
  |false=>rfl
  |true=>have:=h.gb e;grind
 unfold bT.eY
 split
 .rename_i o;have a:n.Cx=n:=HV
  refine⟨Gj h,fun x g=>?_,.inl FW⟩
  rw[aV.1 g,a]
  exact⟨f.symm,rfl,.inr<|.inr<|.inl ⟨rfl,rfl,rfl,rfl,o⟩⟩
 .split
  .rename_i b;have a:n.Cx=n:=HV
   split
   .grind[aNz]
   .refine⟨h,fun x g=>?_,.inl FW⟩;rw[aV.1 g,a];exact⟨f.symm,rfl,.inr<|.inl ⟨rfl,rfl,rfl,rfl,b⟩⟩
  .have i:n.kind=0:=FQ
   have a:n.Cx={n with core:= -1}:=by unfold aG.Cx;rw[bD2 i]
   split
   .grind
   .exact⟨Ht ⟨p,h.owner,h.aH,h.jN,.inl i,rfl,e⟩,Hl f FQ FR,.inr FR⟩
theorem kA {aI:Int}:(r.dW aI d).1.aH=r.aH:=by
 grind[bT.dW]
theorem wu {aI:Int}:(r.rest aI m).1.aH=r.aH:=by
 unfold bT.rest;split;split;rfl;exact kA;rfl
theorem mF {n:aG}:(r.dA n).aH=r.aH:=by
 unfold bT.dA;repeat' split
 all_goals rfl
theorem aCm {aI:Int} {n:aG}:(r.get aI m n w).1.aH=r.aH:=by
 have a:(r.iL n w).jY.aH=r.aH:=by unfold bT.jY;split<;>rfl
 unfold bT.get;simp only;split;unfold bT.La;split;rfl;exact kA;unfold bT.J2;split;exact a;grind[kA]
theorem Gq {aI:Int} {n:aG}:(r.eY aI m n j).1.1.aH=r.aH:=by
 unfold bT.eY;split;rfl;split;grind[aCm];split<;>rfl
theorem Yo {aI:Int}:(r.dW aI d).2.length<=4:=by
 grind[bT.dW]
theorem Sh {aI:Int} {l:FL}:(eT aI st l).length=l.length:=by simp[eT]
theorem bu {aI:Int} {n:aG}:(r.get aI m n w).2.length<=4:=by
 grind[bT.get,bT.La,Sh,tW,Yo,bT.J2]
theorem aEb {aI:Int} {n:aG}:(r.eY aI m n j).2.length<=4:=by
 grind[bT.eY,bu,Sh,tW]
theorem Y5 {C:bQ} {H:nC}:(eQ C H l j).2.1.length<=4:=by
 grind[eQ,iN.dJ,aEb]
end Go.Hm
variable {N:Nat}
namespace Go.Mc
open Go.Hm Go.At Go.Is Go.Ct Go.Nt
variable {C:bQ} {m:Mon} {F:eO} {M:bU} {s:aQ} {r:aQ×Ev}
structure jE (C:bQ) (m:Mon):Prop where
 len:m.eU.length=C.aM.toNat
 V0:∀x∈m.eU,0<=x.owner/\x.owner<=4
 run:∀g r,m.eI g=some r->(g:Int)<C.aM/\r.aR=g/\(r.phase=1\/r.phase=2)/\(0<=r.core/\r.core<C.aB)/\(0<=r.kB/\r.kB<=4)
def vy (Cf:bQ) (F:eO):Prop:=∀c w,(F c w).length<=Cf.eR
theorem jE.jX (h:jE C m) (a:m.kJ g):0<=(m.jX g).owner/\(m.jX g).owner<=4:=by
 refine h.V0 _ ?_;grind[Mon.kJ,Mon.jX]
def jE.aZ1 (hC:C.Ok) (a:jE C m):∀g r,m.eI g=some r->g<16:=by
 intro g r b;have:=(a.run g r b).1;have:=hC.2.1;omega
def vy.V9 {Cf:bQ} (hC:Cf.Ok) (h:vy Cf F):∀c w,(F c w).length<=500:=by
 intro c w;have:=h c w;have:=hC.2.2.2.2.1;omega
structure aKf (Cf:bQ) (M:bU) (i:Nat):Prop where
 bH:jE Cf M.bH
 B6:(M.aD i).Ok
 Pp:iH Cf (M.bR i)
 gG:(M.aT i).bL.length<=100
 cD:vy Cf M.cD
 eF:M.eF.length<=2^30
structure Ff (Cf:bQ) (M:bU) (n:aG):Prop where
 core:0<=n.core/\n.core<Cf.aB
 bH:jE Cf M.bH
 aJ:Bh Cf M.aJ (2^30 - 4)
 Pp:iH Cf (M.bR n.core.toNat)
 gG:(M.aT n.core.toNat).bL.length<=100
 aR:0<=(M.aT n.core.toNat).aR/\(M.aT n.core.toNat).aR<Cf.aM
 dD:n.kind=12->0<=n.d0/\n.d0<=1000000
structure xo (C:bQ) (n:aG):Prop where
 gG:gG C n=0
 dD:n.kind=12->0<=n.d0/\n.d0<=1000000
def fx (C:bQ) (N:Nat) (H:nC):Prop:=∀l,l<C.aF->wF l (H l).1/\(H l).1.aH.length<=N
structure Qs (C:bQ) (F:eO):Prop where
 len:vy C F
 yK:∀c w,∀n∈F c w,xo C n/\n.core.toNat=c/\cQ n=w
def Fu (C:bQ) (c:jO):Prop:=(c.bL.length:Int)<=C.mU/\0<=c.aR/\c.aR<C.aM
structure cX (C:bQ) (N:Nat) (M:bU):Prop where
 bH:jE C M.bH
 B6:∀i:Nat,(i:Int)<C.aB->(M.aD i).Ok
 Pp:∀i:Nat,(i:Int)<C.aB->iH C (M.bR i)
 gG:∀i:Nat,(i:Int)<C.aB->Fu C (M.aT i)
 aJ:fx C N M.aJ
 cD:Qs C M.cD
 eF:M.eF.length<=N
theorem fx.h {H:nC} (h:fx C N H) {K:Nat} (b:N<=K):Bh C H K:=fun l a=>⟨(h l a).1.inv,cL (h l a).2 b⟩
theorem Fu.len (hC:C.Ok) {c:jO} (h:Fu C c):c.bL.length<=100:=by
 have:=h.1;grind[bQ.Ok]
def cX.step (h:cX C N M) (hC:C.Ok) (b:N<=2^29) (a:(i:Int)<C.aB):aKf C M i:=⟨h.bH,h.B6 i a,h.Pp i a,(h.gG i a).len hC,h.cD.len,by have:=h.eF;omega⟩
theorem fJ {n:aG} (h:gG C n=0):Nv n.kind/\0<=n.core/\n.core<C.aB:=by
 unfold Nt.gG at h;split at h
 .rename_i f;split at h
  .split at h
   .rename_i j;refine⟨f,?_⟩;have a:=j.1;unfold Nv at f;have:∃b,Jd n.kind.toNat=1::b:=by
     rcases k14 (k:=n.kind.toNat) FQ with e|e|e|e|e|e|e|e|e|e|e|e|e|e;omega;all_goals rw[e];exact⟨_,rfl⟩
    obtain⟨b,g⟩:=this;rw[g] at a;unfold jM at a;split at a;rename_i i;exact i;cases a
   cases h
  cases h
 cases h
def Yg {n:aG} (h:gG C n=0) (b:n.kind=8):n.state=1\/n.state=2\/n.state=4:=by
 unfold Nt.gG at h;rw[b] at h;split at h;split at h;split at h;rename_i f;have a:=f.1;rw[show Jd _=[1,2,4,6,8,9] from rfl] at a;simp only[jM] at a;split at a;split at a;split at a;split at a;rename_i e;exact e;cases a;cases a;cases a;cases a;cases h;cases h;cases h
def pb {n:aG} (h:gG C n=0) (g:n.kind=1\/n.kind=2\/n.kind=3\/n.kind=4\/n.kind=5\/n.kind=8\/n.kind=9\/n.kind=10\/n.kind=11):0<=n.aI/\n.aI<C.aF:=by
 unfold Nt.gG at h;split at h;split at h;split at h;rename_i j;have a:=j.1;have:∃b,Jd n.kind.toNat=1::2::b:=by
  rcases g with e|e|e|e|e|e|e|e|e<;>rw[e]<;>exact⟨_,rfl⟩
 obtain⟨b,f⟩:=this;rw[f] at a;unfold jM at a;split at a;unfold jM at a;split at a;rename_i i;exact i;cases a;cases a;cases h;cases h;cases h
theorem M9 {b:Int} (hF:Qs C F) (e:(F.take C a b c).2.2=0):xo C (F.take C a b c).2.1/\(F.take C a b c).2.1∈F a.toNat b.toNat:=by
 unfold eO.take at e ⊢;by_cases g:(0<=a/\a<C.aB)/\(0<=b/\b<4);rw[bD1 fun h=>h g] at e ⊢;by_cases i:F a.toNat b.toNat=[];grind;rw[bD1 i];have p:0<(F a.toNat b.toNat).length:=FR;have o:(c % ((F a.toNat b.toNat).length:Int)).toNat<(F a.toNat b.toNat).length:=by
  have j:=CY c (show((F a.toNat b.toNat).length:Int)≠0 by omega);have k:=CZ c (show(0:Int)<((F a.toNat b.toNat).length:Int) by omega);omega
 have f:(F a.toNat b.toNat).getD (c % ((F a.toNat b.toNat).length:Int)).toNat aG.zero∈F a.toNat b.toNat:=by
  grind
 exact⟨(hF.yK _ _ _ f).1,f⟩;grind
theorem Vl {b:Int} (hF:Qs C F):Qs C (F.take C a b c).1:=by
 unfold eO.take;split;exact hF;dsimp only;split;exact hF;constructor;intro x y;unfold eO.set;dsimp only;split;have:=hF.len x y;grind;exact hF.len x y;intro x y n e;unfold eO.set at e;dsimp only at e;split at e;have:=hF.yK _ _ n<|List.mem_of_mem_eraseIdx e;grind;exact hF.yK x y n e
theorem aNe {n:aG} (hF:Qs C F) (f:xo C n) (b:((F n.core.toNat<|cQ n).length:Int)<C.eR):Qs C (F.A9 n):=by
 constructor;intro x y;unfold eO.A9 eO.set;split;grind;exact hF.len x y;intro x y k a;unfold eO.A9 eO.set at a;split at a;rename_i e;rcases cg.1 a with a|a;rw[e.1,e.2];exact hF.yK _ _ k a;grind;exact hF.yK x y k a
theorem aGo:∀{l:IT} {F a:eO},Qs C F->(∀n∈l,xo C n)->eO.sE C.eR F l=some a->Qs C a:=by
 intro l;induction l with
 |nil=>intro F a hF _ h;cases h;exact hF
 |cons n l b=>
  grind[eO.sE,aNe,List.mem_cons_self,List.mem_cons_of_mem]
theorem C8:∀{l:IT},aT C l=0->∀n∈l,Nt.gG C n=0
 |[],_,n,a=>by cases a
 |k::l,h,n,a=>by
  unfold aT at h;split at h;grind;rcases e6.1 a with rfl|a;grind;exact C8 h n a
theorem Gx {l:IT} (hF:Qs C F) (e:∀n∈l,n.kind=12->0<=n.d0/\n.d0<=1000000):Qs C (F.gJ C l).1:=by
 unfold eO.gJ;split;exact hF;split;rename_i f b;exact aGo hF (fun n a=>⟨C8 FR n a,e n a⟩) b;exact hF
theorem Sn (a:s.Ok) (h:s.over=false):aMk (mW s.prog s.at') s.prog.length/\s.at'<s.prog.length:=by
 have b:=a.2.2.1;rw[h] at b;have e:=D1 b.symm;exact⟨Nd<|a.2.2.2.2 _<|Di a.1 e,e⟩
theorem vJ {t:aQ} (f:s.Ok) (g:t.prog=s.prog) (b:0<=a) (e:a<=s.prog.length):(t.jA a).Ok:=by
 grind[aQ.Ok,aQ.jA]
theorem aH2 (a:s.Ok) (h:aQ.lI s i=some r):r.1.Ok:=by
 unfold aQ.lI aQ.kO at h;cases hov:s.over with
 |true=>grind
 |false=>
  rw[hov] at h;simp only[aO,dx] at h;obtain⟨b,g⟩:=Sn a hov;have f:=a.1;split at h;cases h;exact vJ a rfl FQ FQ;split at h;cases h;exact vJ a rfl FQ FQ;split at h;grind[vJ];split at h;split at h;cases h;exact vJ a rfl FQ FQ;grind[vJ];split at h;rename_i e;have:=b.p1 e;grind[vJ];split at h;rename_i e;have:=b.p2 e;grind[vJ];cases h
theorem aFv (a:s.Ok):(aQ.bK s i v c).1.Ok:=by
 unfold aQ.bK;cases hn:aQ.kO s with
 |none=>exact a
 |some x=>
  have b:s.over=false:=by
   unfold aQ.kO at hn;cases h:s.over with
   |false=>rfl
   |true=>grind
  obtain⟨f,g⟩:=Sn a b;have e:=a.1;dsimp only;split;exact vJ a rfl FQ FQ;split;split;exact a;split;grind[vJ];split;grind[vJ];exact vJ a rfl FQ FQ;exact a
theorem aJw (hC:C.Ok) {c:jO} {f:Int×Int} (h:Fu C c):Fu C (c.Bu C f):=by
 have a:1<=C.mU:=by unfold bQ.Ok at hC;omega
 refine⟨?_,h.2⟩;unfold jO.Bu;have:=h.1;grind
theorem aFi {c:jO} (h:Fu C c):Fu C (c.dJ C g).1:=by
 unfold jO.dJ;split;exact h;split;exact h;split;exact h;refine⟨h.1,?_⟩;show 0<=g/\g<C.aM;grind
def aEm (hC:C.Ok) {c:jO} (h:Fu C c):Fu C (c.fM C a w).1:=by
 have b:1<=C.aM:=hC.2.1.1;unfold jO.fM;split;exact h;split;exact h;split;exact h;dsimp only;split;exact h;split;exact h;split;exact h;refine⟨(aJw hC h).1,?_⟩;show(0:Int)<=0/\(0:Int)<C.aM;omega
theorem aQk {c:jO} (h:Fu C c):Fu C (c.drop C g).1:=by
 unfold jO.drop;split;exact h;refine⟨?_,h.2⟩;have:=h.1;grind
variable {H:nC} {d:Do}
theorem cX.mono {K:Nat} (h:cX C N M) (b:N<=K):cX C K M:=⟨h.bH,h.B6,h.Pp,h.gG,fun l a=>⟨(h.aJ l a).1,cL (h.aJ l a).2 b⟩,h.cD,cL h.eF b⟩
theorem cu {α:Type} {P:α->Prop} {s:Nat->α} {t:α} {n:Int} (h:∀j:Nat,(j:Int)<n->P (s j)) (a:P t):∀j:Nat,(j:Int)<n->P (bA s i t j):=by
 grind[bA]
theorem cX.bM (h:cX C N M) (hF:Qs C F):cX C N (M.bM F):={h with cD:=hF}
theorem cX.jI (h:cX C N M) (a:jE C m):cX C N (M.jI m):={h with bH:=a}
def cX.mJ (h:cX C N M) {K:Nat} (b:N<=K) (a:fx C K H):cX C K (M.mJ H):={h.mono b with aJ:=a}
def cX.kC (h:cX C N M) {c:jR} (hc:iH C c):cX C N (M.kC i c):={h with Pp:=cu h.Pp hc}
def cX.eP (h:cX C N M) {c:jO} (hc:Fu C c):cX C N (M.eP i c):={h with gG:=cu h.gG hc}
def cX.oZ (h:cX C N M) {c:aQ} (hc:c.Ok):cX C N (M.oZ i c):={h with B6:=cu h.B6 hc}
def cX.Zv (h:cX C N M) {v:Ev}:cX C (N+1) (M.Zv v):={h.mono (q5 N) with eF:=by rw[dd,AA];have:=h.eF;omega}
theorem aOx (h:jE C m) (a:m.kJ g):0<=(m.jX g).owner/\(m.jX g).owner<=4:=by
 refine h.V0 _ ?_;grind[Mon.kJ,Mon.jX]
theorem aAt (h:jE C m) {g:Nat} {x:mV} (b:0<=x.owner/\x.owner<=4):jE C (m.oL g x):=
 ⟨by show(m.eU.set g x).length=_;rw[rk];exact h.len,fun y a=>by
  rcases List.mem_or_eq_of_mem_set a with a|rfl;exact h.V0 y a;exact b,h.run⟩
theorem Y9 (h:jE C m) {g:Nat} {x:Option Mc.mP} (b:∀r,x=some r->(g:Int)<C.aM/\r.aR=g/\(r.phase=1\/r.phase=2)/\(0<=r.core/\r.core<C.aB)/\(0<=r.kB/\r.kB<=4)):jE C (m.dL g x):=
 ⟨h.len,h.V0,fun k r a=>by
  unfold Mon.dL bA at a;dsimp only at a;split at a;grind;exact h.run k r a⟩
theorem aLt {o t:Int}:0<=(jK c w o t).1/\(jK c w o t).1<=4:=by
 grind[jK]
theorem jb (h:jE C m) {a:Mc.Np}:jE C (m.call C.aB a).1:=by
 unfold Mon.call;split;exact h;rename_i e;split;exact h;have b:m.kJ a.aR:=FR;split;exact h;split;exact h;dsimp only;split;exact h;have g:=h.len;unfold Mon.kJ at b;refine Y9 (aAt h (x:=⟨_,true⟩)<|aOx h b) fun r f=>?_;cases f;refine⟨FQ,?_,.inl rfl,cb.1 e,aLt⟩;show a.aR=_;omega
theorem Pn (h:jE C m):jE C (m.eE C.aB g c).1:=by
 unfold Mon.eE;split;exact h;split;exact h;rename_i r f;split;exact h;split;exact h;unfold Mon.run at f;split at f;refine Y9 h fun j i=>?_;cases i;obtain⟨a,b,c,d,e⟩:=h.run _ r f;grind[mP.gX,mP.dA];cases f
theorem jq (h:jE C m):jE C (m.over g).1/\∀u,(m.over g).2.1=some u->0<=u.core/\u.core<C.aB:=by
 unfold Mon.over;split;grind;split;grind;rename_i r f;split;grind;unfold Mon.run at f;split at f;obtain⟨a,b,c,d,e⟩:=h.run _ r f;grind[Y9,aAt];cases f
theorem fx.A8 (h:fx C N H) {l:Nat} {x:iN} (b:wF l x.1) (e:x.1.aH.length<=N+1):fx C (N+1) (bA H l x):=by
 intro k a;unfold bA;split;grind;exact⟨(h k a).1,u3 (h k a).2⟩
theorem fx.mono {K:Nat} (h:fx C N H) (b:N<=K):fx C K H:=fun l a=>⟨(h l a).1,cL (h l a).2 b⟩
def Ws (h:fx C N H):fx C (N+1) (jT C H l).1:=by
 unfold jT;split;rename_i a;obtain⟨k,rfl⟩:=ay a.1;obtain⟨b,e⟩:=h k (by have:=a.2;omega);refine h.A8 (Ii b rfl (by show(0:Int)<=0/\(0:Int)<4;omega)<|.inl rfl) ?_;show((H k).1.aH++[pQ k]).length<=N+1;simp;omega;exact h.mono<|q5 N
theorem aJ1 {n:aG} (hC:C.Ok) (h:fx C N H):fx C (N+1) (eW C H n).1:=by
 have j:=hC.1;unfold eW;split;exact h.mono<|q5 N;split;rename_i k;obtain⟨o,e⟩:=k;obtain⟨l,a⟩:=ay e.1;obtain⟨f,g⟩:=h l (by have:=e.2;omega);rw[a];refine h.A8 (aD6 f (FR) a FQ) ?_;by_cases b:n.kind=4;unfold iN.take;rw[bD2 b];split;grind;exact u3 g;by_cases i:n.kind=5;unfold iN.take;grind[iN.nH,wu,mF];unfold iN.take;rw[bD1 b,bD1 i];show((H l).1.aH++[n]).length<=N+1;simp;omega;exact h.mono<|q5 N
theorem aDo (h:fx C N H):fx C (N+1) (eQ C H l j).1:=by
 unfold eQ;split;rename_i g;obtain⟨k,rfl⟩:=ay g.1;simp only[aL];obtain⟨e,i⟩:=h k (by have:=g.2;omega);unfold iN.dJ;split;exact h.A8 e FR;cases hw:(H k).1.aH with
 |nil=>exact h.A8 e FR
 |cons n w=>
  have f:=e.aH n FR;obtain⟨a,b,c⟩:=aEl (m:=(H k).2) (j:=j) (Iy e hw) (show((H k).1.next w).busy=false from(by grind:(H k).1.busy=false)) f.1 f.2.1 f.2.2;refine h.A8 a ?_;rw[Gq];show w.length<=N+1;grind
 exact h.mono<|q5 N
def aE1 (h:fx C N H):fx C N (nP H g):=by
 intro l a;unfold nP;split;exact h l a;exact h l a
theorem aCp {n:Int} (b:0<=n/\n<=16) (a:0<=g/\g<=100):0<=lN n g/\lN n g<=1000:=IM
theorem aM2 {es:JH} (i:es.length<=16) (f:∀x∈es,0<=x.owner/\x.owner<=4):0<=(kM es a).1/\(kM es a).1<=1000000:=by
 have b:∀w∈pO es,0<=w/\w<=1000000:=by
  intro w hw;unfold pO at hw;rcases cg.1 hw with hw|hw;obtain⟨j,e,rfl⟩:=gk.1 hw;have e:=AI.1 e;unfold Wf;split;grind;have:=aCp (n:=es.length) (g:=((4*j:Nat):Int)) FQ FQ;omega;obtain⟨x,h,rfl⟩:=gk.1 hw;have:=f x h;unfold Z6;split<;>omega
 unfold kM;split;simp_all;grind
theorem G2 (h:cX C N M) (a:(i:Int)<C.aB):cX C (N+1) (M.bK i v c).1:=by
 unfold bU.bK;dsimp only;split;exact h.mono<|q5 N;exact(h.oZ<|aFv<|h.B6 i a).Zv
def KK (k:Int):Prop:=k=6\/k=7\/k=12\/k=13
theorem aUv {l:IT} (h:∀n∈l,n.kind≠12):∀n∈l,n.kind=12->0<=n.d0/\n.d0<=1000000:=FR
def noK {l:IT} (h:∀n∈l,¬KK n.kind):∀n∈l,n.kind=12->0<=n.d0/\n.d0<=1000000:=aUv fun n a e=>h n a GJ
def aVd (h:cX C N M) {a:Mc.Np} (b:(i:Int)<C.aB):cX C (N+1) (M.call C i a).1:=by
 unfold bU.call;dsimp only;split;exact G2 h b;split;exact h.mono<|q5 N;refine((h.bM<|Gx h.cD<|aUv ?_).jI<|jb h.bH).mono (q5 N);intro n e;obtain⟨k,_,rfl⟩:=gk.1 e;show(13:Int)≠12;omega
theorem aUo (h:cX C N M) (a:(i:Int)<C.aB):cX C (N+1) (M.Bk C i g).1:=by
 unfold bU.Bk;dsimp only;split;exact h.mono<|q5 N;split;exact h.mono<|q5 N;refine((h.bM<|Gx h.cD<|aUv ?_).eP<|aFi<|h.gG i a).mono (q5 N);intro n b;rw[aV.1 b];show(6:Int)≠12;omega
theorem aJo {core:Int} {s:jR} {wr:Bool}:∀n∈(fY C core s l w wr).2.1,¬KK n.kind:=by
 intro n a;unfold fY at a;split at a;cases a;split at a;cases a;split at a;cases a;split at a;cases a;grind[Ag,tV,List.mem_singleton,KK]
theorem aTa (h:cX C N M) {wr:Bool} (a:(i:Int)<C.aB):cX C (N+1) (M.fY C i l wr).1:=by
 unfold bU.fY;dsimp only;split;exact h.mono<|q5 N;split;exact h.mono<|q5 N;exact((h.bM<|Gx h.cD<|noK aJo).kC<|aCx<|h.Pp i a).mono (q5 N)
theorem aUc (h:cX C N M) {o:Int} {x:vT} (b:(i:Int)<C.aB):cX C (N+1) (M.kD C i l a o x).1:=by
 refine G2 (h.kC ?_) b;have e:iH C (if x.F4=true then pG C (M.bR i) l a o else M.bR i):=by
  split;exact Iv<|h.Pp i b;exact h.Pp i b
 grind[Vn]
theorem aHy (h:cX C N M) {a:vT} (b:(i:Int)<C.aB):cX C (N+1) (M.eK C i a).1:=by
 unfold bU.eK;split;exact G2 h b;dsimp only;split;exact h.mono<|q5 N;grind[aUo,G2,aTa,aUc]
def aUw (h:cX C N M):cX C (N+1) (M.step C a).1:=by
 unfold bU.step;split;exact h.mono<|q5 N;have b:((a.toNat:Nat):Int)<C.aB:=FQ
 dsimp only;split;exact h.mono<|q5 N;split;exact h.mono<|q5 N;split;rename_i r e;exact(h.oZ<|aH2 (h.B6 _ b) e).Zv;split;exact aVd h b;split;exact aHy h b;exact h.mono<|q5 N
theorem y9 {r:bT} {aI:Int} {d:Ln}:∀n∈(r.dW aI d).2,¬KK n.kind:=by
 intro n a;unfold bT.dW at a;have e:∀s,(r.oT aI s d).kind=8:=fun _=>rfl;unfold KK;grind
theorem mg {aI:Int} {l:FL}:∀n∈eT aI st l,¬KK n.kind:=by
 grind[eT,KK]
theorem aVo {r:bT} {aI:Int} {m:Ln}:∀n∈(r.rest aI m).2,¬KK n.kind:=by
 grind[bT.rest,y9]
theorem X9 {n:aG}:∀x∈(eW C H n).2.1,¬KK x.kind:=by
 intro x a;unfold eW at a;split at a;cases a;split at a;unfold iN.take at a;split at a;grind;split at a;split at a;cases a;exact aVo x a;cases a;cases a
theorem aX0 {r:bT} {aI:Int} {m:Ln} {n:aG}:∀x∈(r.get aI m n w).2,¬KK x.kind:=by
 grind[bT.get,bT.La,mg,y9,bT.J2]
theorem Ti:∀x∈(eQ C H l j).2.1,¬KK x.kind:=by
 intro x a;unfold eQ at a;split at a;unfold iN.dJ at a;split at a;cases a;split at a;cases a;unfold bT.eY at a;split at a;rw[aV.1 a];show ¬KK 10;unfold KK;omega;split at a;split at a;exact aX0 x a;rw[aV.1 a];show ¬KK 9;unfold KK;omega;grind[mg];cases a
theorem aBh {core:Int} {s:jR} {n:aG}:∀x∈(fP C core s n).2.1,¬KK x.kind:=by
 intro x a;have e:∀y,(iS core n y).kind=5:=fun y=>by grind[iS]
 unfold fP vM Bm rU lK at a;repeat' split at a
 all_goals (unfold KK;grind)
theorem cX.take (h:cX C N M) (hC:C.Ok) (g:N<=2^29) {n:aG} (b:xo C n):Ff C M n:=by
 obtain⟨f,e⟩:=fJ b.gG;have a:((n.core.toNat:Nat):Int)<C.aB:=FQ
 exact⟨e,h.bH,h.aJ.h FQ,h.Pp _ a,(h.gG _ a).len hC,(h.gG _ a).2,b.dD⟩
theorem aNm (h:cX C N M) (hC:C.Ok) {n:aG} (f:xo C n):cX C (N+2) (M.dF C n).1/\∀x∈(M.dF C n).2.1,x.kind=12->0<=x.d0/\x.d0<=1000000:=by
 obtain⟨j,k⟩:=fJ f.gG;have b:((n.core.toNat:Nat):Int)<C.aB:=FQ
 have o:=h.bH.len;have i:=hC.2.1;unfold bU.dF;split;exact⟨(h.mJ (q5 N)<|aJ1 hC h.aJ).mono<|q5 _,noK X9⟩;split;refine⟨(h.kC<|Xe ?_<|h.Pp _ b).mono FQ,noK aBh⟩;intro g;have:=Yg f.gG g;omega;split;refine⟨h.mono FQ,fun x a _=>?_⟩;rw[aV.1 a];exact aM2 FQ h.bH.V0;split;refine⟨(h.eP<|aEm hC<|h.gG _ b).mono FQ,fun x a e=>?_⟩;dsimp only at a;split at a;cases a;rw[aV.1 a] at e;exact absurd e (by show(6:Int)≠12;omega);split;refine⟨(h.eP<|aQk<|h.gG _ b).mono FQ,fun x a e=>?_⟩;rw[aV.1 a] at e;exact absurd e (by show(7:Int)≠12;omega);split;refine⟨?_,FR⟩;dsimp only;split;exact(h.jI<|Pn h.bH).mJ FQ (Ws<|Ws h.aJ);exact(h.jI<|Pn h.bH).mono FQ;exact⟨h.mono FQ,FR⟩
theorem aCd (h:cX C N M) (hC:C.Ok) {b:Int}:cX C (N+2) (M.dE C a b c).1:=by
 unfold bU.dE;dsimp only;split;exact h.mono FQ;rename_i g;obtain⟨e,f⟩:=aNm h hC (M9 h.cD<|cb.1 g).1;split;exact h.mono FQ;split;exact h.mono FQ;exact e.bM<|Gx (Vl h.cD) f
def aR0 (h:cX C N M):cX C (N+2) (M.dJ C a).1:=by
 unfold bU.dJ;dsimp only;split;exact h.mono FQ;split;exact h.mono FQ;exact((h.bM<|Gx h.cD<|noK Ti).mJ (q5 N)<|aDo h.aJ).mono FQ
def aHz (h:cX C N M):cX C (N+2) (M.gH C a).1:=by
 obtain⟨b,e⟩:=jq (g:=a) h.bH;unfold bU.gH;split;exact h.mono FQ;split;exact h.mono FQ;dsimp only;split;exact h.mono FQ;rename_i u f;have i:=e u f;refine(G2 (N:=N) ?_ FQ).mono FQ;split;exact(h.jI b).mJ (bb N) (aE1 h.aJ);exact h.jI b
theorem aRr (h:cX C N M) (hC:C.Ok):cX C (N+2) (M.mC C d).1:=by
 unfold bU.mC;split;exact(aUw h).mono FQ;split;grind[aCd];split;exact aR0 h;split;exact aHz h;exact h.mono FQ
def rp (i:Nat) (s:aQ) (x:Ev):Option aQ:=match aQ.lI s i with
 |some r=>if r.2=x then some r.1 else none
 |none=>if(aQ.bK s i x.value x.code).2.2=0/\(aQ.bK s i x.value x.code).2.1=x then some (aQ.bK s i x.value x.code).1 else none
def Tj (h:aQ.lI s i=some r):r.2.core=i:=by
 unfold aQ.lI at h;cases hn:aQ.kO s with
 |none=>rw[hn] at h;cases h
 |some x=>
  repeat' split at h
  all_goals first|cases h|skip
  all_goals rfl
theorem aKn (h:aQ.lI s i=some r):rp i s r.2=some r.1:=by
 unfold rp;grind
theorem dz (h:(aQ.bK s i v c).2.2=0):aQ.lI s i=none:=by
 unfold aQ.bK at h;unfold aQ.lI;cases hn:aQ.kO s with
 |none=>rfl
 |some x=>
  rw[hn] at h;unfold Qo at h;grind
theorem By (h:(aQ.bK s i v c).2.2=0):(aQ.bK s i v c).2.1.core=i:=by
 unfold aQ.bK at h ⊢;cases hn:aQ.kO s with
 |none=>rw[hn] at h;cases h
 |some x=>
  repeat' split at h
  all_goals first|cases h|skip
  all_goals simp_all [aQ.ev]
theorem Xs (h:(aQ.bK s i v c).2.2=0):rp i s (aQ.bK s i v c).2.1=some (aQ.bK s i v c).1:=by
 unfold rp;rw[dz h];have e:aQ.bK s i (aQ.bK s i v c).2.1.value (aQ.bK s i v c).2.1.code=aQ.bK s i v c:=by
  unfold aQ.bK at h ⊢;cases hn:aQ.kO s with
  |none=>rfl
  |some x=>
   unfold aQ.ev;grind
 grind
def rc (m:Mon) (g:Nat):Option Int:=(m.eI g).map mP.core
structure Dh (M:bU):Prop where
 op:∀g c,rc M.bH g=some c->∃x,aQ.kO (M.aD c.toNat)=some x/\x.op=8
 Fh:∀g g' c,rc M.bH g=some c->rc M.bH g'=some c->g=g'
theorem tT (hC:C.Ok) (a:jE C m):m.gZ c=true↔∃g,rc m g=some c:=by
 unfold Mon.gZ Mon.fO rc;rw[ES];constructor;rintro ⟨g,b,h⟩;unfold Mon.qR at h;grind;rintro ⟨g,h⟩;cases hr:m.eI g with
 |none=>rw[hr] at h;cases h
 |some r=>
  refine⟨g,BN.2 ⟨AI.2<|a.aZ1 hC g r hr,by rw[hr];rfl⟩,?_⟩;unfold Mon.qR;grind
inductive Dx (C:bQ) (d:Do) (M M':bU):Prop where
 |qD (h1:M'.aD=M.aD) (h2:M'.eF=M.eF) (h3:∀g,rc M'.bH g=rc M.bH g)
 |ev (i:Nat) (s:aQ) (v:Ev) (hi:(i:Int)<C.aB) (hd:d.mI=0/\d.a=i) (hw:M.bH.gZ i=false) (h1:M'.aD=bA M.aD i s) (h2:M'.eF=M.eF++[v]) (hc:v.core=i) (hr:rp i (M.aD i) v=some s) (h3:∀g,rc M'.bH g=rc M.bH g)
 |uC (i g:Nat) (hi:(i:Int)<C.aB) (hd:d.mI=0/\d.a=i) (hw:M.bH.gZ i=false) (h1:M'.aD=M.aD) (h2:M'.eF=M.eF) (hx:∃x,aQ.kO (M.aD i)=some x/\x.op=8) (h3:∀g',rc M'.bH g'=if g'=g then some (i:Int) else rc M.bH g') (h0:rc M.bH g=none)
 |sL (i g:Nat) (s:aQ) (v:Ev) (hi:(i:Int)<C.aB) (hd:d.mI=3) (hg:rc M.bH g=some (i:Int)) (h1:M'.aD=bA M.aD i s) (h2:M'.eF=M.eF++[v]) (hc:v.core=i) (ho:v.op=8/\v.code=0) (ha:s.at'=(M.aD i).at'+1) (hr:rp i (M.aD i) v=some s) (h3:∀g',rc M'.bH g'=if g'=g then none else rc M.bH g')
def Em (b:(i:Int)<C.aB) (a:d.mI=0/\d.a=i) (e:M.bH.gZ i=false):Dx C d M (M.bK i v c).1:=by
 unfold bU.bK;dsimp only;split;exact .qD rfl rfl fun _=>rfl;rename_i h;have h:=cb.1 h;exact .ev i _ _ b a e rfl rfl (By h) (Xs h) fun _=>rfl
theorem aUf {a:Mc.Np} (h:aQ.xW s i=some a):a.core=i/\∃x,aQ.kO s=some x/\x.op=8:=by
 unfold aQ.xW at h;grind
theorem aIb {a:Mc.Np} (t:cX C N M) (j:(i:Int)<C.aB) (h:d.mI=0/\d.a=i) (k:M.bH.gZ i=false) (ha:aQ.xW (M.aD i) i=some a):Dx C d M (M.call C i a).1:=by
 obtain⟨p,q⟩:=aUf ha;unfold bU.call;dsimp only;split;exact Em j h k
 .rename_i b;split;exact .qD rfl rfl fun _=>rfl
  .have b:=cb.1 b;have f:rc M.bH a.aR.toNat=none:=by
    unfold Mon.call at b;split at b;cases b;split at b;cases b;rename_i g;split at b;cases b;rename_i e;have o:0<=a.aR:=(cb.1 g).1;have e:M.bH.phase a.aR=0:=cb.1 e;unfold Mon.phase Mon.run at e;rw[bD2 o] at e;unfold rc;cases hr:M.bH.eI a.aR.toNat with
    |none=>rfl
    |some r=>have:=(t.bH.run _ r hr).2.2.1;grind
   refine .uC i a.aR.toNat j h k rfl rfl q (fun v=>?_) f;unfold Mon.call at b ⊢;repeat' split at b
   all_goals first|(revert b;simp;done)|skip
   rename_i n1 g e u;rw[bD1 n1,bD1 g,bD1 e,bD1 u];dsimp only at b ⊢;split at b;grind;rename_i n5;rw[bD1 n5];unfold rc Mon.dL bA;dsimp only;split;show some a.core=_;rw[p];rfl
theorem xi {a:vT} (j:(i:Int)<C.aB) (h:d.mI=0/\d.a=i) (q:M.bH.gZ i=false):Dx C d M (M.eK C i a).1:=by
 have qD:∀{r:bU},r.aD=M.aD->r.eF=M.eF->r.bH=M.bH->Dx C d M r:=fun a b c=> .qD a b fun g=>by rw[c]
 unfold bU.eK;split;exact Em j h q;dsimp only;split;grind;split;unfold bU.Bk;grind;split;exact Em j h q;split;unfold bU.fY;grind;rcases Em (C:=C) (M:=M.kC i<|if a.iV=true then mQ C (if a.F4=true then pG C (M.bR i) (a.dD/2) (a.dD % 2) (M.bL i<|a.dD/2/2) else M.bR i) (a.dD/2) (a.dD % 2) (M.bL i<|a.dD/2/2) a.value else if a.F4=true then pG C (M.bR i) (a.dD/2) (a.dD % 2) (M.bL i<|a.dD/2/2) else M.bR i) (d:=d) (v:=if a.F4=true then Iu C (M.bR i) (a.dD/2) (a.dD % 2) else 0) (c:=0) j h q with⟨a,b,c⟩|⟨i,s,v,a,b,c,e,f,g,k,l⟩|⟨i,g,a,b,c,e,f,k,l,z⟩|⟨i,g,s,v,a,b,c,e,f,k,l,n,o,p⟩;exact .qD a b c;exact .ev i s v a b c e f g k l;exact .uC i g a b c e f k l z;grind
def Ko:∀k,rc (m.eE C.aB g c).1 k=rc m k:=by
 intro k;unfold Mon.eE;split;rfl;split;rfl;rename_i r a;split;rfl;split;rfl;unfold Mon.run at a;split at a;unfold rc Mon.dL bA;dsimp only;split;rename_i e;subst e;rw[a];rfl;rfl;cases a
def Ol {n:aG}:(M.dF C n).1.aD=M.aD/\(M.dF C n).1.eF=M.eF/\∀g,rc (M.dF C n).1.bH g=rc M.bH g:=by
 unfold bU.dF;repeat' split
 all_goals first
  |exact⟨rfl,rfl,fun _=>rfl⟩
  |skip
 dsimp only;split;exact⟨rfl,rfl,fun g=>Ko g⟩;exact⟨rfl,rfl,fun g=>Ko g⟩
def aNy {u:Mc.mP} (h:(m.over g).2.1=some u):rc m g.toNat=some u.core/\∀k,rc (m.over g).1 k=if k=g.toNat then none else rc m k:=by
 unfold Mon.over at h ⊢;split at h;cases h;rename_i n1;rw[bD1 n1];cases hr:m.run g with
 |none=>rw[hr] at h;cases h
 |some r=>
  rw[hr] at h;dsimp only at h ⊢;split at h;cases h;rename_i a;rw[bD1 a];cases h;unfold Mon.run at hr;split at hr;refine⟨by unfold rc;rw[hr];rfl,fun k=>?_⟩;unfold rc Mon.dL bA;dsimp only;split;rfl;rfl;cases hr
theorem H4 (hC:C.Ok) (t:cX C N M) (z:Dh M):Dx C d M (M.mC C d).1:=by
 have qD:∀{r:bU},r.aD=M.aD->r.eF=M.eF->(∀g,rc r.bH g=rc M.bH g)->Dx C d M r:=fun a b c=> .qD a b c;unfold bU.mC;split;rename_i o;unfold bU.step;split;grind;rename_i k;have k:=cb.1 k;have h:((d.a.toNat:Nat):Int)<C.aB:=FQ
 have e:d.mI=0/\d.a=(d.a.toNat:Nat):=⟨o,FQ⟩;dsimp only;split;grind;split;grind;rename_i f;have f:M.bH.gZ ((d.a.toNat:Nat):Int)=false:=by
  rw[<-e.2];unfold bU.aH at f;simpa using f
 split;rename_i r v;exact .ev _ _ _ h e f rfl rfl (Tj v) (aKn v) fun _=>rfl;split;rename_i a k;exact aIb t h e f k;split;exact xi h e f;grind
 .split
  .unfold bU.dE;dsimp only;repeat' split
   all_goals first
    |exact qD rfl rfl fun _=>rfl
    |exact qD Ol.1 Ol.2.1 Ol.2.2
  split;unfold bU.dJ;grind;split;rename_i o;unfold bU.gH;split;grind;split;grind;dsimp only;split;grind;rename_i u w;obtain⟨q,E⟩:=aNy w;have A:=(jq (g:=d.a) t.bH).2 u w;obtain⟨i,h⟩:=ay A.1;obtain⟨x,F,y⟩:=z.op _ _ q;have B:∀P:bU,P.aD=M.aD->P.eF=M.eF->(∀g,rc P.bH g=if g=d.a.toNat then none else rc M.bH g)->Dx C d M (P.bK i 0 0).1:=by
   intro P p1 G D;have j:aQ.bK (P.aD i) i 0 0=(((M.aD i).dL x.b 0).jA<|(M.aD i).at'+1,aQ.ev (M.aD i) i x ((M.aD i).dK x.b.toNat) ((M.aD i).dK x.c.toNat) 0,0):=by
    rw[p1];unfold aQ.bK;grind
   have p:(aQ.bK (M.aD i) i 0 0).2.2=0:=by rw[<-p1,j]
   unfold bU.bK;dsimp only;rw[bD1<|by rw[j];simp];refine .sL i d.a.toNat (aQ.bK (P.aD i) i 0 0).1 (aQ.bK (P.aD i) i 0 0).2.1 FQ o (by rw[q,h]) FR FR ?_ ?_ ?_ ?_ D;rw[p1];exact By p;rw[j];exact⟨y,rfl⟩;rw[j];rfl;rw[p1];exact Xs p
  grind;grind
variable {M':bU}
def zn (a:jE C m) {g:Nat} (h:rc m g=some c):0<=c/\c<C.aB:=by
 unfold rc at h;cases hr:m.eI g with
 |none=>rw[hr] at h;cases h
 |some r=>
  rw[hr] at h;cases h;exact(a.run g r hr).2.2.2.1
theorem Dh.out (hC:C.Ok) (t:cX C N M) (k:Dh M) (D:Dx C d M M'):Dh M':=by
 have u:∀{i:Nat},M.bH.gZ i=false->∀g c,rc M.bH g=some c->c.toNat≠i:=by
  intro i I g c f e;have p:=zn t.bH f;have:c=i:=FQ
  subst this;have:=(tT hC t.bH).2 ⟨g,f⟩;grind
 cases D with
 |qD p q h=>exact⟨fun g c f=>by rw[p];exact k.op g c<|by rw[<-h];exact f,fun g o c a b=>k.Fh g o c (by rw[<-h];exact a)<|by rw[<-h];exact b⟩
 |ev i s v z y A p q B E h=>
  refine⟨fun g c f=>?_,fun g o c a b=>k.Fh g o c (by rw[<-h];exact a)<|by rw[<-h];exact b⟩;rw[h] at f;rw[p];unfold bA;rw[bD1<|u A g c f];exact k.op g c f
 |uC i g z y A p q F h=>
  constructor;intro o c f;rw[h] at f;rw[p];split at f;cases f;exact F;exact k.op o c f;intro g1 g2 c a b;rw[h] at a b;split at a;grind;split at b;grind;exact k.Fh g1 g2 c a b
 |sL i g s v z y f p q B J H E h=>
  constructor;intro o c j;rw[h] at j;split at j;cases j;rename_i w;rw[p];unfold bA;have G:=zn t.bH j;rw[bD1 fun e=>w<|k.Fh o g c j FR];exact k.op o c j;intro g1 g2 c a b;rw[h] at a b;split at a;cases a;split at b;cases b;exact k.Fh g1 g2 c a b
def rps (i:Nat) (s:aQ):JG->Option aQ
 |[]=>some s
 |x::l=>if x.core=i then(match rp i s x with|some t=>rps i t l|none=>none) else rps i s l
def dr {i:Nat}:∀{l:JG} {s t:aQ} {x:Ev},rps i s l=some t->rps i s (l++[x])=if x.core=i then rp i t x else some t
 |[],s,t,x,h=>by
  cases h;show rps i s [x]=_;unfold rps;split;cases rp i s x<;>rfl;rfl
 |y::l,s,t,x,h=>by
  rw[gg];unfold rps at h ⊢;split;rename_i e;rw[bD2 e] at h;cases hr:rp i s y with
  |none=>rw[hr] at h;cases h
  |some u=>rw[hr] at h;exact dr h
  rename_i e;rw[bD1 e] at h;exact dr h
def RPs (C:bQ) (S:Nat->aQ) (M:bU):Prop:=∀i:Nat,(i:Int)<C.aB->rps i (S i) M.eF=some (M.aD i)
variable {S:Nat->aQ}
theorem RPs.out (h:RPs C S M) (u:Dx C d M M'):RPs C S M':=by
 have Fh:∀{i:Nat} {s:aQ} {v:Ev},M'.aD=bA M.aD i s->M'.eF=M.eF++[v]->v.core=i->rp i (M.aD i) v=some s->RPs C S M':=by
  intro i s v a b k o j t;rw[a,b,dr<|h j t];unfold bA;by_cases e:j=i;subst e;rw[bD2 k,bD2 rfl];exact o;grind
 cases u with
 |qD a b p=>intro i f;rw[a,b];exact h i f
 |ev i s v f q w a b k o p=>exact Fh a b k o
 |uC i g f q w a b B p=>intro i f;rw[a,b];exact h i f
 |sL i g s v f q z a b k A y o p=>exact Fh a b k o
structure db (C:bQ) (S:Nat->aQ) (N:Nat) (M:bU):Prop where
 inv:cX C N M
 lE:Dh M
 rps:RPs C S M
def db.mC (hC:C.Ok) (h:db C S N M):db C S (N+2) (M.mC C d).1:=by
 have a:=H4 (d:=d) hC h.inv h.lE;exact⟨aRr h.inv hC,h.lE.out hC h.inv a,h.rps.out a⟩
def db.len (h:db C S N M):M.eF.length<=N:=h.inv.eF
def aKq:(M.Au C [d] 0).1=(M.mC C d).1:=by
 unfold bU.Au;split;rfl;rfl
end Go.Mc
namespace Go.Proofs
open Go.Shelf
def Tryz.je:Go.Shelf.Ren:=⟨fun|138=>37|195=>76|218=>77|143=>78|219=>139|217=>211|225=>212|224=>213|267=>214|266=>279|314=>280|n=>n,fun|9=>9|3=>3|4=>4|5=>5|0=>0|46=>330|146=>435|51=>396|n=>n,fun|1=>2|n=>n⟩
def Tryz.aOe:Go.Proofs.Lays.n138 Tryz.prog Tryz.je:={
 mixed:=FU
 f138:=Tryz.func37.trans<|eV some FU
 f143:=Tryz.func78.trans<|eV some FU
 f195:=Tryz.func76.trans<|eV some FU
 f217:=Tryz.func211.trans<|eV some FU
 f218:=Tryz.func77.trans<|eV some FU
 f219:=Tryz.func139.trans<|eV some FU
 f224:=Tryz.func213.trans<|eV some FU
 f225:=Tryz.func212.trans<|eV some FU
 f266:=Tryz.func279.trans<|eV some FU
 f267:=Tryz.func214.trans<|eV some FU
 f314:=Tryz.func280.trans<|eV some FU
 t0:=Tryz.underlying0
 a0:=Tryz.isAgg0
 z0:=Tryz.sizeOf0
 v0:=Tryz.zeroValue0
 t3:=Tryz.underlying3
 a3:=Tryz.isAgg3
 z3:=Tryz.sizeOf3
 v3:=Tryz.zeroValue3
 t4:=Tryz.underlying4
 a4:=Tryz.isAgg4
 z4:=Tryz.sizeOf4
 v4:=Tryz.zeroValue4
 t5:=Tryz.underlying5
 a5:=Tryz.isAgg5
 z5:=Tryz.sizeOf5
 v5:=Tryz.zeroValue5
 t9:=Tryz.underlying9
 a9:=Tryz.isAgg9
 z9:=Tryz.sizeOf9
 v9:=Tryz.zeroValue9
 t46:=Tryz.underlying330
 a46:=Tryz.isAgg330
 z46:=Tryz.sizeOf330
 v46:=Tryz.zeroValue330
 t51:=Tryz.underlying396
 a51:=Tryz.isAgg396
 z51:=Tryz.sizeOf396
 v51:=Tryz.zeroValue396
 t146:=Tryz.underlying435
 a146:=Tryz.isAgg435
 z146:=Tryz.sizeOf435
 v146:=Tryz.zeroValue435
 g1:=by kernel_rfl}
def Tryz.km:Go.Shelf.Ren:=⟨fun|219=>139|217=>211|225=>212|224=>213|267=>214|266=>279|314=>280|n=>n,fun|9=>9|3=>3|4=>4|5=>5|46=>330|146=>435|51=>396|n=>n,fun|1=>2|n=>n⟩
def Tryz.aP9:Go.Proofs.Lays.n219 Tryz.prog Tryz.km:={
 mixed:=FU
 f217:=Tryz.func211.trans<|eV some FU
 f219:=Tryz.func139.trans<|eV some FU
 f224:=Tryz.func213.trans<|eV some FU
 f225:=Tryz.func212.trans<|eV some FU
 f266:=Tryz.func279.trans<|eV some FU
 f267:=Tryz.func214.trans<|eV some FU
 f314:=Tryz.func280.trans<|eV some FU
 t3:=Tryz.underlying3
 a3:=Tryz.isAgg3
 z3:=Tryz.sizeOf3
 v3:=Tryz.zeroValue3
 t4:=Tryz.underlying4
 a4:=Tryz.isAgg4
 z4:=Tryz.sizeOf4
 v4:=Tryz.zeroValue4
 t5:=Tryz.underlying5
 a5:=Tryz.isAgg5
 z5:=Tryz.sizeOf5
 v5:=Tryz.zeroValue5
 t9:=Tryz.underlying9
 a9:=Tryz.isAgg9
 z9:=Tryz.sizeOf9
 v9:=Tryz.zeroValue9
 t46:=Tryz.underlying330
 a46:=Tryz.isAgg330
 z46:=Tryz.sizeOf330
 v46:=Tryz.zeroValue330
 t51:=Tryz.underlying396
 a51:=Tryz.isAgg396
 z51:=Tryz.sizeOf396
 v51:=Tryz.zeroValue396
 t146:=Tryz.underlying435
 a146:=Tryz.isAgg435
 z146:=Tryz.sizeOf435
 v146:=Tryz.zeroValue435
 g1:=by kernel_rfl}
def Tryz.qp:Go.Shelf.Ren:=⟨fun|244=>141|247=>216|287=>282|321=>328|322=>329|n=>n,fun|9=>9|3=>3|75=>225|4=>4|5=>5|167=>372|37=>373|0=>0|85=>374|2=>2|53=>398|175=>439|46=>330|21=>21|80=>503|n=>n,fun|n=>n⟩
def Tryz.aPw:Go.Proofs.Lays.n244 Tryz.prog Tryz.qp:={
 mixed:=FU
 f244:=Tryz.func141.trans<|eV some FU
 f247:=Tryz.func216.trans<|eV some FU
 f287:=Tryz.func282.trans<|eV some FU
 f321:=Tryz.func328.trans<|eV some FU
 f322:=Tryz.func329.trans<|eV some FU
 t0:=Tryz.underlying0
 a0:=Tryz.isAgg0
 z0:=Tryz.sizeOf0
 v0:=Tryz.zeroValue0
 t2:=Tryz.underlying2
 a2:=Tryz.isAgg2
 z2:=Tryz.sizeOf2
 v2:=Tryz.zeroValue2
 t3:=Tryz.underlying3
 a3:=Tryz.isAgg3
 z3:=Tryz.sizeOf3
 v3:=Tryz.zeroValue3
 t4:=Tryz.underlying4
 a4:=Tryz.isAgg4
 z4:=Tryz.sizeOf4
 v4:=Tryz.zeroValue4
 t5:=Tryz.underlying5
 a5:=Tryz.isAgg5
 z5:=Tryz.sizeOf5
 v5:=Tryz.zeroValue5
 t9:=Tryz.underlying9
 a9:=Tryz.isAgg9
 z9:=Tryz.sizeOf9
 v9:=Tryz.zeroValue9
 t21:=Tryz.underlying21
 a21:=Tryz.isAgg21
 z21:=Tryz.sizeOf21
 v21:=Tryz.zeroValue21
 t37:=Tryz.underlying373
 a37:=Tryz.isAgg373
 z37:=Tryz.sizeOf373
 v37:=Tryz.zeroValue373
 t46:=Tryz.underlying330
 a46:=Tryz.isAgg330
 z46:=Tryz.sizeOf330
 v46:=Tryz.zeroValue330
 t53:=Tryz.underlying398
 a53:=Tryz.isAgg398
 z53:=Tryz.sizeOf398
 v53:=Tryz.zeroValue398
 t75:=Tryz.underlying225
 a75:=Tryz.isAgg225
 z75:=Tryz.sizeOf225
 v75:=Tryz.zeroValue225
 t85:=Tryz.underlying374
 a85:=Tryz.isAgg374
 z85:=Tryz.sizeOf374
 v85:=Tryz.zeroValue374
 t167:=Tryz.underlying372
 a167:=Tryz.isAgg372
 z167:=Tryz.sizeOf372
 v167:=Tryz.zeroValue372
 t175:=Tryz.underlying439
 a175:=Tryz.isAgg439
 z175:=Tryz.sizeOf439
 v175:=Tryz.zeroValue439}
end Go.Proofs
variable {p:Nat->Bool}
namespace Go.Mc
open Go.Hm Go.At Go.Is Go.Ct Go.Nt
variable {C:bQ} {M M':bU} {d:Do} {S:Nat->aQ}
def lS (C:bQ) (r:bU×Nat) (d:Do):bU×Nat:=
 let a:=r.1.mC C d
 if a.2≠0 then(a.1,r.2)
 else if d.mI≠1\/d.b≠2 then(a.1,r.2+1)
 else
  let b:=a.1.mC C ⟨0,d.a,0,0⟩
  if b.2=0 then(b.1,r.2+2) else(b.1,r.2+1)
def bU.round (C:bQ) (M:bU):bU×Nat:=(M.ready C).foldl (lS C) (M,0)
def wN (d:Do):Nat:=if d.mI=1/\d.b=2 then 2 else 1
def wE (d:Do):Nat:=if d.mI=0\/d.mI=3\/(d.mI=1/\d.b=2) then 1 else 0
def S2 (j:Dx C d M M'):M.eF.length<=M'.eF.length/\M'.eF.length<=M.eF.length+(if d.mI=0\/d.mI=3 then 1 else 0):=by
 cases j with
 |qD e a f=>rw[a];omega
 |ev i s v h b p e a k o f=>rw[a,bD2<|.inl b.1];simp
 |uC i g h b p e a u f=>rw[a];omega
 |sL i g s v h b t e a k j q o f=>rw[a,bD2<|.inr b];simp
structure lh (C:bQ) (S:Nat->aQ) (N:Nat) (M:bU) (n:Nat) (k e:Nat) (r:bU×Nat):Prop where
 all:db C S N r.1
 n0:n<=r.2
 n1:r.2<=n+k
 l0:M.eF.length<=r.1.eF.length
 l1:r.1.eF.length<=M.eF.length+e
theorem aAv (hC:C.Ok) (h:db C S N M):lh C S (N+4) M n (wN d) (wE d) (lS C (M,n) d):=by
 have a:=h.mC (d:=d) hC;have b:=S2<|H4 (d:=d) hC h.inv h.lE;have up:∀{M:bU},db C S (N+2) M->db C S (N+4) M:=fun h=>⟨⟨h.inv.bH,h.inv.B6,h.inv.Pp,h.inv.gG,fun l g=>⟨(h.inv.aJ l g).1,by have:=(h.inv.aJ l g).2;omega⟩,h.inv.cD,by have:=h.inv.eF;omega⟩,h.lE,h.rps⟩;unfold lS;dsimp only;by_cases e:(M.mC C d).2≠0;rw[bD2 e];exact⟨up a,bb _,FQ,b.1,by unfold wE;grind⟩;rw[bD1 e];by_cases c2:d.mI≠1\/d.b≠2;rw[bD2 c2];exact⟨up a,FQ,by unfold wN;rw[aaa];exact bb _,b.1,by unfold wE;grind⟩;rw[bD1 c2];have f:=a.mC (d:=⟨0,d.a,0,0⟩) hC;have i:=S2<|H4 (d:=⟨0,d.a,0,0⟩) hC a.inv a.lE;rw[bD2<|.inl rfl] at i;have j:wN d=2:=by unfold wN;rw[aac]
 have e2:wE d=1:=by unfold wE;rw[aac]
 rw[aaa] at b;split;exact⟨f,FQ,FQ,GG,GG⟩;exact⟨f,FQ,FQ,GG,GG⟩
def aP0 (hC:C.Ok):∀{l:IY} {N:Nat} {M:bU} {n:Nat},db C S N M->lh C S (N+4*l.length) M n (l.map wN).sum (l.map wE).sum (l.foldl (lS C) (M,n)):=by
 intro l;induction l with
 |nil=>intro N M n h;exact⟨h,bb _,bb _,bb _,bb _⟩
 |cons d l e=>
  intro N M n h;have a:=aAv (d:=d) hC h (n:=n);have b:lh C S (N+4+4*l.length) (lS C (M,n) d).1 (lS C (M,n) d).2 (l.map wN).sum (l.map wE).sum (l.foldl (lS C)<|lS C (M,n) d):=e a.all (n:=(lS C (M,n) d).2);rw[k7,k7,EN,EN,CX,js];have a1:=a.n0;have f:=a.n1;have a3:=a.l0;have a4:=a.l1;have g:=b.n0;have i:=b.n1;have j:=b.l0;have k:=b.l1;refine⟨?_,FQ,FQ,FQ,FQ⟩;have:=b.all;rw[show N+4+4*l.length=N+4*(l.length+1) by omega] at this;exact this
def ah {α:Type} {f:α->Nat} {k:Nat}:∀{l:List α},(∀x∈l,f x<=k)->(l.map f).sum<=k*l.length
 |[],_=>og _
 |x::l,h=>by
  have b:=h x FW;have e:=ah (f:=f) (k:=k) (l:=l) fun y a=>h y (by simp[a]);rw[k7,EN,js,Nat.mul_add];omega
def M8:((List.range n).filter p).length<=n:=by
 have:=ss p<|List.range n;simp at this ⊢;exact this
def aNk {c:Nat}:((((List.range 4).filter p).map fun w:Nat=>(⟨1,c,w,0⟩:Do)).map wN).sum<=5/\((((List.range 4).filter p).map fun w:Nat=>(⟨1,c,w,0⟩:Do)).map wE).sum<=1:=by
 have e:List.range 4=[0,1,2,3]:=rfl;rw[e];cases h0:p 0<;>cases h1:p 1<;>cases h2:p 2<;>cases h3:p 3<;>simp[DO,h0,h1,h2,h3,wN,wE]
def gx {p:Nat->Nat->Bool}:∀{n:Nat},((((List.range n).flatMap fun c=>((List.range 4).filter<|p c).map fun w:Nat=>(⟨1,c,w,0⟩:Do))).map wN).sum<=5*n/\((((List.range n).flatMap fun c=>((List.range 4).filter<|p c).map fun w:Nat=>(⟨1,c,w,0⟩:Do))).map wE).sum<=n/\(((List.range n).flatMap fun c=>((List.range 4).filter<|p c).map fun w:Nat=>(⟨1,c,w,0⟩:Do))).length<=4*n
 |0=>⟨bb _,bb _,bb _⟩
 |n+1=>by
  obtain⟨a,b,c⟩:=gx (p:=p) (n:=n);obtain⟨d1,d2⟩:=aNk (c:=n) (p:=p n);have d3:=M8 (n:=4) (p:=p n);rw[ep (n:=n),oX,l4,l4,CF,CF,dd];simp only[AN,ET,kx,k6] at*;omega
def Ox:((M.ready C).map wN).sum<=6*C.aB.toNat+C.aF+C.aM.toNat/\((M.ready C).map wE).sum<=2*C.aB.toNat+C.aM.toNat/\(M.ready C).length<=5*C.aB.toNat+C.aF+C.aM.toNat:=by
 obtain⟨d1,d2,d3⟩:=gx (p:=fun c w=>decide<|M.cD c w≠[]) (n:=C.aB.toNat);have Fh:∀{l:FL} {f:Nat->Do},(∀i,(f i).mI≠1)->((l.map f).map wN).sum<=l.length:=fun {l f} h=>by
  have:=ah (f:=wN) (k:=1) (l:=l.map f) fun x b=>by
   obtain⟨i,_,rfl⟩:=gk.1 b;unfold wN;rw[bD1 fun e=>h i e.1];exact bb _
  rw[k6] at this;omega
 have a:∀{l:FL} {f:Nat->Do},((l.map f).map wE).sum<=l.length:=fun {l f}=>by
  have:=ah (f:=wE) (k:=1) (l:=l.map f) fun x b=>by unfold wE;split<;>omega
  rw[k6] at this;omega
 have j:∀{l:FL} {f:Nat->Do},(∀i,(f i).mI=2)->((l.map f).map wE).sum<=0:=fun {l f} h=>by
  have:=ah (f:=wE) (k:=0) (l:=l.map f) fun x b=>by
   obtain⟨i,_,rfl⟩:=gk.1 b;unfold wE;rw[bD1<|by have:=h i;omega];exact bb _
  omega
 unfold bU.ready;simp only[l4,CF,dd];have s1:=Fh (l:=(List.range C.aB.toNat).filter fun i:Nat=> !(M.aD i).over&& !M.aH i) (f:=fun i:Nat=>(⟨0,i,0,0⟩:Do)) fun i=>GG;have s2:=a (l:=(List.range C.aB.toNat).filter fun i:Nat=> !(M.aD i).over&& !M.aH i) (f:=fun i:Nat=>(⟨0,i,0,0⟩:Do));have s3:=M8 (n:=C.aB.toNat) (p:=fun i:Nat=> !(M.aD i).over&& !M.aH i);have t1:=Fh (l:=(List.range C.aF).filter fun l=> !(M.aJ l).1.busy&&decide ((M.aJ l).1.aH≠[])) (f:=fun l:Nat=>(⟨2,l,0,0⟩:Do)) fun i=>GG;have t2:=j (l:=(List.range C.aF).filter fun l=> !(M.aJ l).1.busy&&decide ((M.aJ l).1.aH≠[])) (f:=fun l:Nat=>(⟨2,l,0,0⟩:Do)) fun i=>rfl;have t3:=M8 (n:=C.aF) (p:=fun l=> !(M.aJ l).1.busy&&decide ((M.aJ l).1.aH≠[]));have o:=Fh (l:=(List.range C.aM.toNat).filter fun g:Nat=>M.gX C g) (f:=fun g:Nat=>(⟨3,g,0,0⟩:Do)) fun i=>GG;have q:=a (l:=(List.range C.aM.toNat).filter fun g:Nat=>M.gX C g) (f:=fun g:Nat=>(⟨3,g,0,0⟩:Do));have t:=M8 (n:=C.aM.toNat) (p:=fun g:Nat=>M.gX C g);simp only[k6] at*;omega
def aHx (hC:C.Ok) (h:db C S N M):lh C S (N+400) M 0 (6*C.aB.toNat+C.aF+C.aM.toNat) (2*C.aB.toNat+C.aM.toNat) (M.round C):=by
 have a:lh C S (N+4*(M.ready C).length) M 0 ((M.ready C).map wN).sum ((M.ready C).map wE).sum (M.round C):=aP0 hC (l:=M.ready C) (n:=0) h;obtain⟨i,j,r3⟩:=Ox (C:=C) (M:=M);have g:=hC.1;have e:=bQ.fF hC;exact⟨(fun f h=>⟨⟨h.inv.bH,h.inv.B6,h.inv.Pp,h.inv.gG,fun l b=>⟨(h.inv.aJ l b).1,by have:=(h.inv.aJ l b).2;omega⟩,h.inv.cD,by have:=h.inv.eF;omega⟩,h.lE,h.rps⟩) FQ a.all,a.n0,by have:=a.n1;omega,a.l0,by have:=a.l1;omega⟩
def bU.Bj (C:bQ):Nat->Nat->bU->Nat×bU
 |0,k,M=>(k,M)
 |f+1,k,M=>if M.over C then(k,M) else if(M.round C).2=0/\(M.round C).1.over C=false then(k+f+1,(M.round C).1) else bU.Bj C f (k+1) (M.round C).1
end Go.Mc
namespace Go.Pc
open Go.Hm Go.Ct
variable {M:IT}
section
structure CL where
 st:Int
 d:Ln
 qP:Bool
 aw:Bool
 gi:Bool
 gs:Int
 gd:Ln
abbrev CLs:=Nat->CL
def isN (k:Int) (i l:Nat) (n:aG):Bool:=decide<|n.kind=k/\n.core=(i:Int)/\n.aI=(l:Int)
def fS (k:Int) (i l:Nat) (N:IT):Nat:=N.countP<|isN k i l
theorem dU {k:Int} {l:Nat} {n:aG} {N:IT}:fS k i l (n::N)=fS k i l N+if n.kind=k/\n.core=(i:Int)/\n.aI=(l:Int) then 1 else 0:=by
 unfold fS isN;grind
theorem Kw {k:Int} {l:Nat} {N:IT}:fS k i l (M++N)=fS k i l M+fS k i l N:=AK
theorem zz {k:Int} {l:Nat}:fS k i l []=0:=rfl
def aK2 {k:Int} {l:Nat} {N:IT} (h:M.Perm N):fS k i l M=fS k i l N:=h.countP_eq _
theorem Ja {k:Int} {l:Nat} {N:IT} (h:0<fS k i l N):∃n∈N,n.kind=k/\n.core=(i:Int)/\n.aI=(l:Int):=by
 obtain⟨n,b,a⟩:=AQ.1 h;exact⟨n,b,c8 a⟩
theorem gS {k:Int} {l:Nat} {N:IT} {n:aG} (h:n∈N) (a:n.kind=k) (b:n.core=(i:Int)) (e:n.aI=(l:Int)):0<fS k i l N:=
 AQ.2 ⟨n,h,cj FQ⟩
def F7 (c:CL) (p:Nat):Int:=if c.st≠0 then c.st else if c.gi=true/\0<p then c.gs else 0
def yV (c:CL):Ln:=if c.st≠0 then c.d else c.gd
def pd (l:Nat) (r:bT) (N:IT) (i:Nat):Nat:=fS 3 i l N+fS 3 i l r.aH
def HH (l:Nat) (r:bT) (c:CLs) (N:IT) (i:Nat):Int:=F7 (c i)<|pd l r N i
def B4 (r:bT) (i:Nat):Nat:=if r.busy=true/\r.cJ=false/\r.aX.kind≠0/\r.aX.core=(i:Int) then 1 else 0
def Cj (r:bT) (i:Nat):Nat:=if r.cJ=true/\r.aX.core=(i:Int) then 1 else 0
structure fT (l:Nat) (r:bT) (m V:Ln) (c:CLs) (N:IT):Prop where
 iU:wF l r
 ks:r.busy=true->r.aX.kind=0\/r.aX.kind=1\/r.aX.kind=2
 kg:r.cJ=true->r.aX.kind≠0
 kS:r.kS=true->r.cJ=true
 nc:∀n∈N,n.aI=l/\0<=n.core/\n.core<4
 ex:∀i,i<4->(c i).st≠0\/(c i).qP=true->(c i).gi=false
 Bb:∀i,i<4->(0<=(c i).st/\(c i).st<=4)/\(0<=(c i).gs/\(c i).gs<=4)
 t1:∀i,i<4->fS 1 i l N+fS 2 i l N+fS 1 i l r.aH+fS 2 i l r.aH+B4 r i+fS 8 i l N+fS 9 i l N=(c i).qP.toNat
 t2:∀i,i<4->fS 3 i l N+fS 3 i l r.aH+fS 10 i l N=(c i).gi.toNat
 t3:∀i,i<4->fS 11 i l N+fS 5 i l N=(r.dQ i).toNat
 t4:∀i,i<4->fS 8 i l N+fS 4 i l N=Cj r i
 a1:∀i,i<4->(c i).qP=true->HH l r c N i≠2/\HH l r c N i≠4
 a2:∀i,i<4->(c i).qP=true->(c i).aw=false->HH l r c N i=0
 rq:∀n,n∈N\/n∈r.aH->n.kind=1\/n.kind=2->(n.kind=2↔(c n.core.toNat).aw=true)
 rs:r.busy=true->r.cJ=false->r.aX.kind≠0->(r.aX.kind=2↔(c r.aX.core.toNat).aw=true)
 c1:∀i,i<4->fS 5 i l N=0->fS 8 i l N=0->(HH l r c N i=1↔r.sh i=true)/\(2<=HH l r c N i↔r.owner=(i:Int))
 c2:∀i,i<4->HH l r c N i=2\/HH l r c N i=4->∀j,j<4->j≠i->HH l r c N j=0
 Hy:∀i,i<4->HH l r c N i=2\/HH l r c N i=4->∀n∈N,n.kind=5->n.oS=false
 gN:∀n∈N,n.kind=8->(n.state=1\/n.state=2\/n.state=4)/\(n.state=4↔(c n.core.toNat).aw=true)/\
  (n.state=1->r.sh n.core.toNat=true/\HH l r c N n.core.toNat=0/\∀j,j<4->HH l r c N j≠2/\HH l r c N j≠4)/\
  (n.state≠1->r.owner=n.core/\∀j:Nat,j<4->r.sh j=false/\((j:Int)≠n.core->HH l r c N j=0))/\
  (n.state=2->HH l r c N n.core.toNat=0)/\(HH l r c N n.core.toNat=0->(n.d0,n.d1)=V)
 pN:∀n∈N,n.kind=11->n.state=(if r.aX.kind=1 then 1 else 0)/\(r.sh n.core.toNat=true\/r.owner=n.core)/\(r.aX.kind=1->r.owner=n.core)
 rN:∀n∈N,n.kind=5->(r.aX.kind≠1->HH l r c N n.core.toNat=0)/\
  (r.aX.kind=1->r.owner=n.core/\n.state=HH l r c N n.core.toNat/\((n.state=1/\n.oS=false)\/(n.state=3/\n.oS=true)))/\(n.oS=true->(n.d0,n.d1)=V)
 uN:∀n,n∈N\/n∈r.aH->n.kind=3->(n.d0,n.d1)=(c n.core.toNat).gd/\((c n.core.toNat).gs=3\/(c n.core.toNat).gs=4->n.oS=true)
 c3:∀i,i<4->HH l r c N i≠0->yV (c i)=V
 c5:(∀i,i<4->HH l r c N i≠3/\HH l r c N i≠4)->(∀n∈N,n.kind=5->n.oS=false)->m=V
 k2:r.busy=true->r.cJ=false->r.aX.kind≠1->∀j:Nat,j<4->(r.aX.kind=2->(j:Int)≠r.aX.core)->r.sh j=true\/r.owner=(j:Int)->r.dQ j=true
variable {l:Nat} {r:bT} {m V:Ln} {c:CLs} {N N':IT}
theorem fT.cI (h:fT l r m V c N) (p:N.Perm N'):fT l r m V c N':=by
 have e:∀k i,fS k i l N'=fS k i l N:=fun k i=>(aK2 p).symm;have a:∀i,HH l r c N' i=HH l r c N i:=fun i=>by unfold HH pd;rw[e]
 have em:∀n,n∈N'↔n∈N:=FR;constructor;case iU=>exact h.iU
 case ks=>exact h.ks
 case kg=>exact h.kg
 case kS=>exact h.kS
 case nc=>intro n f;exact h.nc n<|(em n).1 f
 case ex=>exact h.ex
 case Bb=>exact h.Bb
 case t1=>intro i b;simp only[e];exact h.t1 i b
 case t2=>intro i b;simp only[e];exact h.t2 i b
 case t3=>intro i b;simp only[e];exact h.t3 i b
 case t4=>intro i b;simp only[e];exact h.t4 i b
 case a1=>simp only[a];exact h.a1
 case a2=>simp only[a];exact h.a2
 case rq=>simp only[em];exact h.rq
 case rs=>exact h.rs
 case c1=>simp only[e,a];exact h.c1
 case c2=>simp only[a];exact h.c2
 case Hy=>simp only[a,em];exact h.Hy
 case gN=>simp only[a,em];exact h.gN
 case pN=>simp only[em];exact h.pN
 case rN=>simp only[a,em];exact h.rN
 case uN=>simp only[em];exact h.uN
 case c3=>simp only[a];exact h.c3
 case c5=>simp only[a,em];exact h.c5
 grind[k2]
end
variable {l:Nat} {r:bT} {m V:Ln} {c:CLs} {N:IT} {n:aG}
theorem jU (h:0<=n.core/\n.core<4):∃i:Nat,i<4/\n.core=(i:Int)/\n.core.toNat=i:=⟨n.core.toNat,FQ,FQ,rfl⟩
theorem fT.aTp (h:fT l r m V c (n::N)) (y:n.kind=1\/n.kind=2\/n.kind=3):fT l (r.lE n) m V c N:=by
 have j:=h.nc n FW;have o:∀k i,fS k i l (r.lE n).aH=fS k i l r.aH+if n.kind=k/\n.core=(i:Int)/\n.aI=(l:Int) then 1 else 0:=fun k i=>by
  show fS k i l (r.aH++[n])=_;grind[Kw,dU,zz]
 have e:∀i,HH l _ c N i=HH l r c (n::N) i:=fun i=>by
  unfold HH pd;rw[o,dU];grind
 have g:∀k i,(k=4\/k=5\/k=8\/k=9\/k=10\/k=11)->fS k i l (n::N)=fS k i l N:=fun k i q=>by
  rw[dU,aaa];omega
 have em:∀x,x∈N->x∈n::N:=FR;have p:∀x,x∈(r.lE n).aH↔x∈r.aH\/x=n:=fun x=>by
  show x∈r.aH++[n]↔_;simp
 have t:∀i,B4 (r.lE n) i=B4 r i:=fun _=>rfl;have e2:∀i,Cj (r.lE n) i=Cj r i:=fun _=>rfl;constructor;exact Ii h.iU j.1 j.2 FQ;exact h.ks;exact h.kg;exact h.kS;intro x b;exact h.nc x<|em x b;exact h.ex;exact h.Bb;intro i a;have:=h.t1 i a;grind[dU];intro i a;have:=h.t2 i a;grind[dU];intro i a;have:=h.t3 i a;rw[g 11 i FQ,g 5 i FQ] at this;exact this;intro i a;have:=h.t4 i a;grind;simp only[e];exact h.a1;simp only[e];exact h.a2;intro x b;refine h.rq x ?_;grind;exact h.rs;intro i a v w;rw[e];exact h.c1 i a FR FR;simp only[e];exact h.c2;simp only[e];exact fun i a f x b=>h.Hy i a f x<|em x b;simp only[e];exact fun x b=>h.gN x<|em x b;exact fun x b=>h.pN x<|em x b;simp only[e];exact fun x b=>h.rN x<|em x b;intro x b;refine h.uN x ?_;grind;simp only[e];exact h.c3;simp only[e];exact fun f u=>h.c5 f FR;exact h.k2
theorem fT.aH9 (h:fT l r m V c (n::N)) (O:n.kind=4):r.cJ=true/\r.aX.core=n.core/\fT l r.lA m V c N:=by
 have w:=h.nc n FW;obtain⟨i0,q,y,A⟩:=jU w.2;have t:Cj r i0=1:=by
  have:=h.t4 i0 q;rw[dU (k:=4),aac] at this;have:Cj r i0<=1:=by unfold Cj;split<;>omega
  omega
 have f:r.cJ=true/\r.aX.core=n.core:=by unfold Cj at t;split at t<;>grind
 refine⟨f.1,f.2,?_⟩;have E:=h.iU.sD<|.inl f.1;have L:∀i,i<4->r.dQ i=false:=fun i a=>by
  grind[bT.kI]
 have o:∀k i,k≠4->fS k i l (n::N)=fS k i l N:=fun k i D=>by
  rw[dU,aaa];omega
 have g:∀i,HH l r.lA c N i=HH l r c _ i:=fun i=>by
  unfold HH pd;rw[o 3 i FQ];rfl
 have em:∀x,x∈N->x∈n::N:=FR;have F:∀x∈N,x.kind≠5/\x.kind≠11:=fun x b=>by
  have p:=h.nc x<|em x b;obtain⟨j,B,z,_⟩:=jU p.2;have I:=h.t3 j B;grind[gS]
 have G:∀i,i<4->fS 8 i l N=0/\fS 4 i l N=0:=fun i a=>by
  have:=h.t4 i a;grind[dU,Cj]
 have u:∀x∈N,x.kind≠8:=fun x b e=>by
  have p:=h.nc x<|em x b;grind[jU,gS]
 constructor;exact I2 h.iU E;intro e;cases e;intro e;cases e;intro e;cases e;intro x b;exact h.nc x<|em x b;exact h.ex;exact h.Bb;intro i a;have:=h.t1 i a;simp_all[B4,bD1,bT.lA];intro i a;have:=h.t2 i a;rw[o 3 i FQ,o 10 i FQ] at this;exact this;intro i a;have:=h.t3 i a;rw[o 11 i FQ,o 5 i FQ] at this;exact this;grind[Cj,bT.lA];simp only[g];exact h.a1;simp only[g];exact h.a2;intro x b;exact h.rq x<|b.imp (em x) id;intro e;cases e;intro i a J K;rw[g];exact h.c1 i a FR FR;simp only[g];exact h.c2;grind;grind;grind;grind;intro x b;exact h.uN x<|b.imp (em x) id;simp only[g];exact h.c3;simp only[g];exact fun v H=>h.c5 v FR;intro e;cases e
theorem fT.bAx (h:fT l r m V c (n::N)) (R:n.kind=9) (q:i<4) (D:n.core=(i:Int)):(c i).qP=true/\fT l r m V (bA c i {c i with qP:=false,aw:=false}) N:=by
 have Q:=h.nc n FW;have kJ:(c i).qP=true:=by
  have:=h.t1 i q;rw[dU (k:=9),aac] at this;cases A:(c i).qP with
  |true=>rfl
  |false=>grind
 refine⟨kJ,?_⟩;have em:∀x,x∈N->x∈n::N:=FR;have t:∀k j,k≠9->fS k j l (n::N)=fS k j l N:=fun k j F=>by
  rw[dU,aaa];omega
 have J:fS 1 i l N=0/\fS 2 i l N=0/\fS 1 i l r.aH=0/\fS 2 i l r.aH=0/\B4 r i=0/\fS 8 i l N=0/\fS 9 i l N=0:=by
  have:=h.t1 i q;rw[t 1 i FQ,t 2 i FQ,t 8 i FQ,dU,aac,kJ] at this;grind
 have p:∀j,HH l r (bA c i {c i with qP:=false,aw:=false}) N j=HH l r c (n::N) j:=fun j=>by
  unfold HH pd;rw[t 3 j FQ];unfold bA;split;rename_i e;subst e;rfl;rfl
 have u:∀j,(bA c i _) j=if j=i then {c i with qP:=false,aw:=false} else c j:=fun j=>rfl
 have E:∀j,yV ((bA c i _) j)=yV (c j):=fun j=>by rw[u];grind[yV]
 have o:∀j,((bA c i {c i with qP:=false,aw:=false}) j).gd=(c j).gd/\((bA c i {c i with qP:=false,aw:=false}) j).gs=(c j).gs/\((bA c i {c i with qP:=false,aw:=false}) j).gi=(c j).gi/\((bA c i {c i with qP:=false,aw:=false}) j).st=(c j).st:=FR;have G:∀x,x∈N\/x∈r.aH->x.kind=1\/x.kind=2\/x.kind=8->x.core.toNat≠i:=by
  intro x a I e;have B:x.aI=l/\0<=x.core/\x.core<4:=by
   rcases a with a|a;exact h.nc x<|em x a;have:=h.iU.aH x a;grind
  have H:x.core=(i:Int):=FQ
  rcases a with a|a;grind[gS];have T:=(h.iU.aH x a).2.2;grind[gS]
 constructor;case iU=>exact h.iU
 case ks=>exact h.ks
 case kg=>exact h.kg
 case kS=>exact h.kS
 case nc=>intro x a;exact h.nc x<|em x a
 case ex=>intro j f a;rw[(o j).2.2.1];refine h.ex j f ?_;grind
 case Bb=>intro j f;rw[(o j).2.2.2,(o j).2.1];exact h.Bb j f
 case t1=>
  intro j f;have:=h.t1 j f;grind[dU]
 case t2=>intro j f;have:=h.t2 j f;grind
 case t3=>intro j f;have:=h.t3 j f;grind
 case t4=>intro j f;have:=h.t4 j f;grind
 case a1=>intro j f A;rw[p];refine h.a1 j f ?_;grind
 case a2=>intro j f A B;rw[p];refine h.a2 j f ?_ ?_<;>grind
 case rq=>intro x a w;rw[u,bD1 FR];exact h.rq x FR w
 case rs=>intro b g K;have:=J.2.2.2.2.1;unfold B4 at this;rw[u,bD1 fun e=>by have:=h.iU.core;grind];exact h.rs b g K
 case c1=>intro j f O P;rw[p];exact h.c1 j f FR FR
 case c2=>simp only[p];exact h.c2
 case Hy=>simp only[p];exact fun j f v x a=>h.Hy j f v x<|em x a
 case gN=>intro x a z;simp only[p];rw[u,bD1 FR];exact h.gN x (em x a) z
 case pN=>exact fun x a=>h.pN x<|em x a
 case rN=>simp only[p];exact fun x a=>h.rN x<|em x a
 case uN=>intro x a y;rw[(o _).1,(o _).2.1];exact h.uN x FR y
 case c3=>intro j f;rw[p,E];exact h.c3 j f
 case c5=>simp only[p];exact fun v L=>h.c5 v FR
 grind[k2]
variable {α:Type}
theorem cR {f:Nat->α} {x:α}:bA f i x i=x:=by simp_all[bA,bD2]
theorem bO {f:Nat->α} {j:Nat} {x:α} (h:j≠i):bA f i x j=f j:=by simp_all[bA,bD1]
theorem fT.aSy (h:fT l r m V c (n::N)) (F:n.kind=10) (b:i<4) (t:n.core=(i:Int)) {gd':Ln} (E:a=0):(c i).gi=true/\fT l r m V (bA c i {c i with gi:=false,gs:=a,gd:=gd'}) N:=by
 have D:=h.nc n FW;have z:∀k j,fS k j l (n::N)=fS k j l N+if k=10/\j=i then 1 else 0:=fun k j=>by
  grind[dU]
 have g:(c i).gi=true:=by have:=h.t2 i b;grind
 refine⟨g,?_⟩;have G:fS 3 i l N=0/\fS 3 i l r.aH=0:=by have:=h.t2 i b;grind
 have em:∀x,x∈N->x∈n::N:=FR;have v:=h.ex i b;have o:∀j,HH l r (bA c i {c i with gi:=false,gs:=a,gd:=gd'}) N j=HH l r c (n::N) j:=fun j=>by
  unfold HH pd;grind[cR,F7,bO]
 have y:∀j,HH l r c (n::N) j≠0->yV ((bA c i {c i with gi:=false,gs:=a,gd:=gd'}) j)=yV (c j):=fun j u=>by
  by_cases e:j=i;subst e;rw[cR];unfold yV;split<;>try rfl
  rename_i p;exfalso;apply u;rw[<-o,HH,cR];simp[F7,p];rw[bO e]
 have B:∀x,x∈N\/x∈r.aH->x.kind=3->x.core.toNat≠i:=fun x f k e=>by
  rcases f with f|f;have:=h.nc x<|em x f;grind[gS];have:=h.iU.aH x f;grind[gS]
 constructor;case iU=>exact h.iU
 case ks=>exact h.ks
 case kg=>exact h.kg
 case kS=>exact h.kS
 case nc=>grind [h.nc]
 case ex=>have:=h.ex;grind [bA]
 case Bb=>have:=h.Bb;grind [bA]
 case t1=>have:=h.t1;grind [bA]
 case t2=>have:=h.t2;grind [bA]
 case t3=>have:=h.t3;grind [bA]
 case t4=>have:=h.t4;grind [bA]
 case a1=>have:=h.a1;grind [bA]
 case a2=>have:=h.a2;grind [bA]
 case rq=>have:=h.rq;grind [bA]
 case rs=>have:=h.rs;grind [bA]
 case c1=>have:=h.c1;grind [bA]
 case c2=>have:=h.c2;grind [bA]
 case Hy=>have:=h.Hy;grind [bA]
 case gN=>intro x f w;have:=h.gN x (em x f) w;grind [bA]
 case pN=>have:=h.pN;grind [bA]
 case rN=>have:=h.rN;grind [bA]
 case uN=>have:=h.uN;grind [bA]
 case c3=>have:=h.c3;grind
 case c5=>simp only[o];exact fun q A=>h.c5 q FR
 grind[k2,bA]
theorem hQ (h:r.kI=true) (a:i<4):r.dQ i=false:=by
 grind[bT.kI]
theorem fT.bd (h:fT l r m V c N) {x:aG} (a:x∈N\/x∈r.aH):x.aI=l/\0<=x.core/\x.core<4:=by
 rcases a with a|a;exact h.nc x a;have:=h.iU.aH x a;grind
theorem fT.none (h:fT l r m V c N) {k:Int} (f:fS k i l N=0) {x:aG} (a:x∈N) (b:x.kind=k):x.core≠(i:Int):=fun e=>by
 have:=gS a b e (h.nc x a).1;omega
theorem fT.Bj (h:fT l r m V c N) (i:r.kI=true) {x:aG} (f:x∈N):x.kind≠5/\x.kind≠11:=by
 have a:=h.nc x f;obtain⟨j,e,b,_⟩:=jU a.2;have g:=h.t3 j e;grind[hQ,gS]
def fT.no8 (h:fT l r m V c N) (a:i<4) (f:Cj r i=0) {x:aG} (e:x∈N) (b:x.kind=8):x.core≠(i:Int):=
 h.none (by have:=h.t4 i a;omega) e b
theorem fT.V0 (h:fT l r m V c N) (j:i<4) (g:2<=HH l r c N i):r.owner=(i:Int):=by
 by_cases b:fS 5 i l N=0;by_cases f:fS 8 i l N=0;exact((h.c1 i j b f).2).1 g;obtain⟨x,a,k,e,_⟩:=Ja<|EG f;have:=h.gN x a k;grind;obtain⟨x,a,k,e,_⟩:=Ja<|EG b;have:=h.rN x a k;grind
def Ft (i:Int) (l:Nat):aG:=⟨4,i,l,0,0,0,0,false,0⟩
theorem fT.cJ (h:fT l r m V c (n::N)) (O:n.kind=8) (b:i<4) (H:n.core=(i:Int)) {v:Ln} (I:v=if(c i).st≠0 then(c i).d else(n.d0,n.d1)):
  ((c i).qP=true/\(c i).gi=false/\(n.state=1\/n.state=2\/n.state=4))/\fT l r m V (bA c i {c i with st:=n.state,d:=v,qP:=false,aw:=false}) (Ft i l::N):=by
 have Z:=h.nc n FW
 have g:∀k j,fS k j l (n::N)=fS k j l N+if k=8/\j=i then 1 else 0:=fun k j=>by
  grind[dU]
 have w:∀k j,fS k j l (Ft i l::N)=fS k j l N+if k=4/\j=i then 1 else 0:=fun k j=>by
  grind[dU,Ft]
 have K:r.cJ=true/\r.aX.core=(i:Int):=by
  have:=h.t4 i b;rw[g,g] at this;simp at this;unfold Cj at this;grind
 have kJ:(c i).qP=true:=by have:=h.t1 i b;rw[g 8] at this;cases a:(c i).qP<;>simp_all
 have q:=h.ex i b<|.inr kJ
 have L:=h.gN n FW O
 refine⟨FR,?_⟩
 have Q:=h.iU.sD<|.inl K.1
 have z:=fun x a=>h.Bj Q (x:=x) a
 have hz:fS 1 i l N=0/\fS 2 i l N=0/\fS 1 i l r.aH=0/\fS 2 i l r.aH=0/\fS 8 i l N=0/\fS 4 i l N=0/\fS 9 i l N=0:=by
  have:=h.t1 i b;have p:=h.t4 i b;simp only[g,kJ] at this p;unfold Cj at p;simp at this p;split at p<;>omega
 have W:fS 3 i l N=0/\fS 3 i l r.aH=0:=by have:=h.t2 i b;simp only[g,q] at this;simp at this;omega
 have em:∀x,x∈N->x∈n::N:=FR
 have R:∀x∈N,x.kind≠8:=fun x a k=>by
  have y:=h.nc x<|em x a;obtain⟨j,f,A,_⟩:=jU y.2;have p:=h.t4 j f;have:=gS a k A y.1;simp only[g] at p;by_cases e:j=i;grind;have:Cj r j=0:=by unfold Cj;rw[aaa]
  omega
 generalize hC:bA c i _=c'
 have ci:c' i={c i with st:=n.state,d:=v,qP:=false,aw:=false}:=IJ
 have u:∀j,j≠i->c' j=c j:=fun j e=>IC
 have B:∀j,(c' j).gi=(c j).gi/\(c' j).gs=(c j).gs/\(c' j).gd=(c j).gd:=fun j=>FR
 have F:HH l r c' (Ft i l::N) i=n.state:=by
  unfold HH;rw[ci];unfold F7;rw[bD2 FR]
 have G:HH l r c (n::N) i=(c i).st:=by unfold HH F7;rw[q];simp;omega
 have D:∀j,j≠i->HH l r c' (Ft i l::N) j=HH l r c (n::N) j:=fun j e=>by
  unfold HH pd;rw[g 3 j,w 3 j,aaa,aaa,u j e]
 have J:yV (c' i)=V:=by
  rw[ci];unfold yV;rw[bD2 FR];simp only[I];split;have:=h.c3 i b FR;grind[yV];grind
 constructor
 case iU=>exact h.iU
 case ks=>exact h.ks
 case kg=>exact h.kg
 case kS=>exact h.kS
 case nc=>intro x a;rcases e6.1 a with rfl|a;exact⟨rfl,by grind[Ft]⟩;exact h.nc x<|em x a
 case ex=>have:=h.ex;grind
 case Bb=>have:=h.Bb;grind
 case t1=>
  intro j f
  have E:=h.t1 j f
  grind
 case t2=>have:=h.t2;grind
 case t3=>have:=h.t3;grind
 case t4=>have:=h.t4;grind
 case a1=>grind
 case a2=>have:=h.a2;grind
 case rq=>
  intro x a t
  have o:x∈N\/x∈r.aH:=a.imp (fun h=>by grind[Ft]) id
  have y:=h.bd<|o.imp (em x) id
  have P:x.core≠(i:Int):=by
   rcases o with a|a<;>rcases t with t|t<;>(grind[gS])
  rw[u _ FQ];exact h.rq x FR t
 case rs=>grind
 case c1=>
  intro j f X Y
  by_cases e:j=i
  .have:=h.iU.jN j f;grind
  .rw[D j e];exact h.c1 j f FR FR
 case c2=>
  grind
 case Hy=>grind[Ft]
 case gN=>grind[Ft]
 case pN=>grind[Ft]
 case rN=>grind[Ft]
 case uN=>
  intro x a k
  have o:x∈N\/x∈r.aH:=a.imp (fun h=>by grind[Ft]) id
  rw[(B _).2.1,(B _).2.2];exact h.uN x FR k
 case c3=>
  intro j f T
  by_cases e:j=i
  .grind
  .rw[u j e];exact h.c3 j f FR
 case c5=>
  intro E U
  refine h.c5 (fun j f=>?_) fun x a=>?_
  .grind
  grind
 grind
end Go.Pc
