/- A part of the proof. -/
import Derived.Test.YteelnoablpdhbaaGreatDoorO8
import Derived.Test.YteelnoablpdhbaaGreatDoorO7
import Derived.Shelf.Strings.Search2
import Derived.Shelf.Strings.Count
import Derived.Shelf.Strconv.Atoi
import Derived.Test.YteelnoablpdhbaaGreatDoorChecked
set_option linter.all false
open Go Go.Ab
namespace Go.Mc
open Go.Hm Go.At Go.Is Go.Ct Go.Nt
structure iF where
 owner:Int
 Ch:Bool
 deriving DecidableEq
abbrev HR:=List iF
def iF.enc (x:iF):EK:=[I x.owner,.bool x.Ch]
def mG:iF:=⟨0,false⟩
def eP (n g:Int):Int:=(n+3)/4+g
def Wd (x:iF):Int:=if x.Ch then x.owner+8 else x.owner
def K4 (es:HR) (j:Nat):Bool:=((es.drop<|4*j).take 4).all fun x=>decide<|x=⟨(es.getD (4*j) mG).owner,false⟩
def Si (es:HR) (j:Nat):Int:=if K4 es j then 4*(es.getD (4*j) mG).owner else 4*eP es.length (4*j:Nat)+1
def nL (es:HR):EL:=(List.range<|(es.length+3)/4).map (Si es)++es.map Wd
def iG (es:HR) (at':Int):Int×Int:=if 0<=at'/\at'<(nL es).length then((nL es).getD at'.toNat 0,0) else(0,10)
def Ej (o:Int):Bool:=decide<|0<=o/\o<=4
def uX (n g at' cS:Int):Int×iF×Bool×Int:=
 if ¬((1<=n/\n<=16)/\(0<=g/\g<n)) then(0,mG,false,10)
 else if at'=g/4 then
  if cS=4*eP n (g/4*4)+1 then(eP n g,mG,false,0)
  else if cS % 4=0/\Ej (cS/4)=true then(0,⟨cS/4,false⟩,true,0)
  else(0,mG,false,14)
 else if at'=eP n g then
  if Ej cS=true then(0,⟨cS,false⟩,true,0)
  else if 8<=cS/\Ej (cS - 8)=true then(0,⟨cS - 8,true⟩,true,0)
  else(0,mG,false,14)
 else(0,mG,false,10)
structure lX where
 eN:Bool
 cJ:Int
 at':Int
 nQ:Bool
 cC:List (Int×Int)
def M7:lX:=⟨false,0,0,false,[]⟩
def dW (x:Int×Int):EK:=[I x.1,I x.2]
def fS (l:List (Int×Int)) (g:Int):Option Int:=(l.find? fun x=>decide<|x.1=g).map (·.2)
def lX.vQ (c:lX) (C:bT) (bG g:Int):Int×Int:=
 if(0<=g/\g<C.bB)/\(0<=bG/\bG<=3) then
  match fS c.cC g with
  |none=>(3,0)
  |some o=>if vE bG o then(1,0) else(2,0)
 else(0,10)
def lX.qR (c:lX) (g:Int):lX:={c with eN:=true,cJ:=g,at':=g/4,nQ:=false}
def lX.fX (c:lX) (C:bT) (g:Int):lX×Int×Int:=
 if ¬(0<=g/\g<C.bB) then(c,0,10)
 else if(fS c.cC g).isSome then(c,0,13)
 else if c.eN then(c,0,16)
 else(c.qR g,g/4,0)
def lX.I0 (c:lX) (C:bT) (f:Int×Int):lX:={c with cC:=(if(c.cC.length:Int)>=C.lI then c.cC.drop 1 else c.cC)++[f]}
def lX.goto (c:lX) (a:Int):lX:={c with at':=a}
def lX.gO (c:lX):lX:={c with nQ:=false,at':=c.cJ/4}
def lX.done (c:lX):lX:={c with eN:=false,cJ:=0,at':=0,nQ:=false}
def lX.fN (c:lX) (C:bT) (at' cS:Int):lX×Int×Bool×Int:=
 if c.eN=false then(c,0,false,16)
 else if at'≠c.at' then(c,0,false,1)
 else if c.nQ then(c.gO,c.cJ/4,false,0)
 else
  let r:=uX C.bB c.cJ at' cS
  if r.2.2.2≠0 then(c,0,false,r.2.2.2)
  else if r.2.2.1=true/\r.2.1.Ch=true then(c.goto<|c.cJ/4,c.cJ/4,false,0)
  else if r.2.2.1=false then(c.goto r.1,r.1,false,0)
  else((c.I0 C (c.cJ,r.2.1.owner)).done,0,true,0)
def lX.drop (c:lX) (C:bT) (g:Int):lX×Int:=
 if g< -1\/g>=C.bB then(c,10)
 else({c with cC:=c.cC.filter fun x=> !decide (g= -1\/x.1=g),nQ:=c.nQ||(c.eN&&decide (g= -1\/c.cJ=g))},0)
structure mE where
 core:Int
 bG:Int
 call:Int
 cJ:Int
 to:Int
 Cy:Int
 F3:Bool
 phase:Int
 aY:Nat->Bool
def mE.enc (r:mE):EK:=[I r.core,I r.bG,I r.call,I r.cJ,I r.to,I r.Cy,.bool r.F3,I r.phase,.bool<|r.aY 0,.bool<|r.aY 1,.bool<|r.aY 2,.bool<|r.aY 3]
structure gV where
 eB:HR
 lS:Nat->Option mE
def gV.y1 (m:gV) (g:Nat) (x:iF):gV:={m with eB:=m.eB.set g x}
def gV.dL (m:gV) (g:Nat) (x:Option mE):gV:={m with lS:=bJ m.lS g x}
def gV.fY (m:gV) (g:Int):Prop:=0<=g/\g<m.eB.length
instance (m:gV) (g:Int):Decidable (m.fY g):=by unfold gV.fY;infer_instance
def gV.Ft (m:gV) (g:Int):iF:=m.eB.getD g.toNat mG
def gV.run (m:gV) (g:Int):Option mE:=if 0<=g then m.lS g.toNat else none
def gV.phase (m:gV) (g:Int):Int:=match m.run g with
 |some r=>r.phase
 |none=>0
def gV.eE (m:gV):EM:=(List.range 16).filter fun g=>(m.lS g).isSome
def gV.oX (m:gV) (core:Int) (g:Nat):Bool:=match m.lS g with
 |some r=>decide (r.core=core)
 |none=>false
def gV.qS (m:gV) (core:Int):Bool:=m.eE.any<|m.oX core
structure Yc where
 core:Int
 bG:Int
 call:Int
 cJ:Int
 to:Int
def Yc.enc (a:Yc):EK:=[I a.core,I a.bG,I a.call,I a.cJ,I a.to]
def Yc.run (a:Yc) (aE:Int) (j:Int×Bool×Int):mE:=⟨a.core,a.bG,a.call,a.cJ,a.to,j.1,j.2.1,1,fun i=>decide<|(i:Int)<aE⟩
def gV.call (m:gV) (aE:Int) (a:Yc):gV×Bool×Int:=
 if ¬(0<=a.core/\a.core<aE) then(m,false,1)
 else if ¬m.fY a.cJ then(m,false,10)
 else if m.phase a.cJ≠0 then(m,false,17)
 else if m.qS a.core then(m,false,13)
 else
  let j:=oE a.call a.bG (m.Ft a.cJ).owner a.to
  if j.2.2≠0 then(m,false,j.2.2)
  else((m.y1 a.cJ.toNat ⟨(m.Ft a.cJ).owner,true⟩).dL a.cJ.toNat<|some<|a.run aE j,true,0)
def mE.none (r:mE):Bool:= !(r.aY 0||r.aY 1||r.aY 2||r.aY 3)
def mE.mC (r:mE) (core:Int):mE:={r with aY:=yG r.aY core false}
def mE.mY (r:mE):mE:={r with phase:=if r.none then 2 else r.phase}
def gV.iC (m:gV) (aE g core:Int):gV×Bool×Int:=
 if ¬m.fY g then(m,false,10)
 else match m.run g with
  |none=>(m,false,16)
  |some r=>
   if r.phase≠1 then(m,false,16)
   else if ¬(0<=core/\core<aE)\/r.aY core.toNat=false then(m,false,12)
   else(m.dL g.toNat<|some (r.mC core).mY,(r.mC core).none,0)
def gV.over (m:gV) (g:Int):gV×Option mE×Int:=
 if ¬m.fY g then(m,none,10)
 else match m.run g with
  |none=>(m,none,16)
  |some r=>
   if r.phase≠2 then(m,none,16)
   else((m.y1 r.cJ.toNat ⟨r.Cy,false⟩).dL g.toNat none,some r,0)
def aT.lJ (s:aT):Option fM:=if s.over then none else some (hQ s.prog s.at')
def aT.ev (s:aT) (i:Nat) (x:fM) (cS value code:Int):Ev:=⟨i,s.at',x.op,s.bG,cS,value,code⟩
def aT.lM (s:aT) (i:Nat):Option (aT×Ev):=
 match aT.lJ s with
 |none=>none
 |some x=>
  if x.op=1 then some ((s.dL x.a x.b).iO<|s.at'+1,aT.ev s i x 0 x.b 0)
  else if x.op=2 then some ((s.dL x.a<|wr<|s.cX x.b.toNat+s.cX x.c.toNat).iO<|s.at'+1,aT.ev s i x 0 (wr<|s.cX x.b.toNat+s.cX x.c.toNat) 0)
  else if x.op=6 then some (s.iO<|s.at'+1,aT.ev s i x 0 0 0)
  else if x.op=7 then(if s.bG=0 then some ((s.Vh x.a).iO<|s.at'+1,aT.ev s i x 0 x.a 0) else some (s.iO<|s.at'+1,aT.ev s i x 0 x.a 18))
  else if x.op=9 then some (s.iO x.a,aT.ev s i x 0 x.a 0)
  else if x.op=10 then some (s.iO<|if s.cX x.a.toNat=0 then x.b else s.at'+1,aT.ev s i x 0 (s.cX x.a.toNat) 0)
  else none
def M6 (op:Int):Bool:=decide<|op=3\/op=4\/op=5
structure U3 where
 cS:Int
 dX:Bool
 Su:Bool
 value:Int
def aT.iK (s:aT):Option U3:=
 match aT.lJ s with
 |none=>none
 |some x=>if M6 x.op then some ⟨s.cX x.b.toNat,decide<|x.op≠3,decide<|x.op≠4,if x.op=3 then 0 else s.cX x.a.toNat⟩ else none
def aT.Vw (s:aT) (i:Nat):Option Yc:=
 match aT.lJ s with
 |none=>none
 |some x=>if x.op=8 then some ⟨i,s.bG,x.a,s.cX x.b.toNat,s.cX x.c.toNat⟩ else none
def aT.cM (s:aT) (i:Nat) (value code:Int):aT×Ev×Int:=
 match aT.lJ s with
 |none=>(s,Jy,16)
 |some x=>
  if x.op=8 then((s.dL x.b code).iO<|s.at'+1,aT.ev s i x (s.cX x.b.toNat) (s.cX x.c.toNat) code,0)
  else if M6 x.op then
   if code≠0/\code≠19 then(s,Jy,1)
   else if code=19 then(s.iO<|s.at'+1,aT.ev s i x (s.cX x.b.toNat) 0 19,0)
   else if x.op=4 then(s.iO<|s.at'+1,aT.ev s i x (s.cX x.b.toNat) (s.cX x.a.toNat) 0,0)
   else((s.dL x.a value).iO<|s.at'+1,aT.ev s i x (s.cX x.b.toNat) value 0,0)
  else(s,Jy,16)
abbrev fI:=Nat->Nat->HM
def dO (n:aI):Nat:=(Tm n.kind.toNat).toNat
def fI.set (F:fI) (c w:Nat) (l:HM):fI:=fun a b=>if a=c/\b=w then l else F a b
def fI.jZ (F:fI) (n:aI):fI:=F.set n.core.toNat (dO n)<|F n.core.toNat (dO n)++[n]
def fI.xP (d:Int):fI->HM->Option fI
 |F,[]=>some F
 |F,n::l=>if((F n.core.toNat<|dO n).length:Int)<d then fI.xP d (F.jZ n) l else none
def aU (C:bT):HM->Int
 |[]=>0
 |n::l=>if mZ C n≠0 then mZ C n else aU C l
def fI.mR (C:bT) (F:fI) (l:HM):fI×Int:=
 if aU C l≠0 then(F,aU C l) else match fI.xP C.eT F l with
  |some a=>(a,0)
  |none=>(F,11)
def fI.take (C:bT) (F:fI) (core a b:Int):fI×aI×Int:=
 if ¬((0<=core/\core<C.aE)/\(0<=a/\a<4)) then(F,aI.zero,10)
 else
  let l:=F core.toNat a.toNat
  if l=[] then(F,aI.zero,12)
  else
   let i:=(b % (l.length:Int)).toNat
   (F.set core.toNat a.toNat<|l.eraseIdx i,l.getD i aI.zero,0)
structure cN where
 aC:Nat->aT
 aJ:Nat->iJ
 aU:Nat->lX
 aK:kQ
 dS:gV
 bN:fI
 jW:List Ev
abbrev cN.kI (M:cN) (i:Nat) (s:aT):cN:={M with aC:=bJ M.aC i s}
abbrev cN.rT (M:cN) (i:Nat) (s:iJ):cN:={M with aJ:=bJ M.aJ i s}
abbrev cN.Ag (M:cN) (i:Nat) (s:lX):cN:={M with aU:=bJ M.aU i s}
abbrev cN.rC (M:cN) (h:kQ):cN:={M with aK:=h}
abbrev cN.oS (M:cN) (m:gV):cN:={M with dS:=m}
abbrev cN.dU (M:cN) (l:fI):cN:={M with bN:=l}
abbrev cN.V2 (M:cN) (v:Ev):cN:={M with jW:=M.jW++[v]}
def fH (kind:Int) (core:Int) (no:Int):aI:={aI.zero with kind:=kind,core:=core,no:=no}
def uJ (core cS no:Int):aI:={fH 12 core no with d0:=cS}
variable (C:bT)
def cN.aY (M:cN) (i:Int):Bool:=M.dS.qS i
def cN.cM (M:cN) (i:Nat) (value code:Int):cN×Int:=
 let r:=aT.cM (M.aC i) i value code
 if r.2.2≠0 then(M,r.2.2) else((M.kI i r.1).V2 r.2.1,0)
def br (aE g:Int):HM:=(List.range aE.toNat).map fun i:Nat=>fH 13 i g
def cN.call (M:cN) (i:Nat) (a:Yc):cN×Int:=
 let r:=M.dS.call C.aE a
 if r.2.2≠0 then M.cM i 0 r.2.2
 else
  let s:=M.bN.mR C<|br C.aE a.cJ
  if s.2≠0 then(M,s.2) else((M.dU s.1).oS r.1,0)
def cN.Er (M:cN) (i:Nat) (g:Int):cN×Int:=
 let r:=(M.aU i).fX C g
 if r.2.2≠0 then(M,r.2.2)
 else
  let s:=M.bN.mR C [fH 6 i r.2.1]
  if s.2≠0 then(M,s.2) else((M.dU s.1).Ag i r.1,0)
def cN.gM (M:cN) (i:Nat) (bA:Int) (dX:Bool):cN×Int:=
 let r:=Ct.gM C i (M.aJ i) bA (M.aC i).bG dX
 if r.2.2≠0 then(M,r.2.2)
 else
  let s:=M.bN.mR C r.2.1
  if s.2≠0 then(M,s.2) else((M.dU s.1).rT i r.1,0)
def cN.cC (M:cN) (i:Nat) (g:Int):Int:=(fS (M.aU i).cC g).getD 0
def cf (d:Ln) (a:Int):Int:=if a=0 then d.1 else d.2
def I3 (c:iJ) (l a:Int):Int:=cf (cI C.bL.toNat c.S l).1.d a
def cN.jJ (M:cN) (i:Nat) (bA at' owner:Int) (a:U3):cN×Int:=
 let b:=if a.Su then rR C (M.aJ i) bA at' owner else M.aJ i
 let c2:=if a.dX then jH C b bA at' owner a.value else b
 (M.rT i c2).cM i (if a.Su then I3 C (M.aJ i) bA at' else 0) 0
def cN.fV (M:cN) (i:Nat) (a:U3):cN×Int:=
 if ¬(0<=a.cS/\a.cS<C.aF*2) then M.cM i 0 19
 else
  let bA:=a.cS/2
  let g:=bA/2
  let r:=(M.aU i).vQ C (M.aC i).bG g
  if r.2≠0 then(M,r.2)
  else if r.1=3 then M.Er C i g
  else if r.1=2 then M.cM i 0 19
  else if oD C.bL.toNat (M.aJ i).S bA (M.cC i g) a.dX=false then M.gM C i bA a.dX
  else M.jJ C i bA (a.cS % 2) (M.cC i g) a
def cN.step (M:cN) (A:Int):cN×Int:=
 if ¬(0<=A/\A<C.aE) then(M,10)
 else
  let i:=A.toNat
  if(M.aC i).over then(M,20)
  else if M.aY A then(M,16)
  else match aT.lM (M.aC i) i with
   |some r=>((M.kI i r.1).V2 r.2,0)
   |none=>match aT.Vw (M.aC i) i with
    |some a=>M.call C i a
    |none=>match aT.iK (M.aC i) with
     |some a=>M.fV C i a
     |none=>(M,16)
def Ov (H:kQ) (g:Int):kQ:=(oW C (oW C H<|g*2).1<|g*2+1).1
def cN.dN (M:cN) (n:aI):cN×HM×Int:=
 if n.kind=1\/n.kind=2\/n.kind=3\/n.kind=4\/n.kind=5 then
  let r:=gJ C M.aK n
  (M.rC r.1,r.2.1,r.2.2)
 else if n.kind=8\/n.kind=9\/n.kind=10\/n.kind=11 then
  let r:=jU C n.core (M.aJ n.core.toNat) n
  (M.rT n.core.toNat r.1,r.2.1,r.2.2)
 else if n.kind=6 then
  let r:=iG M.dS.eB n.no
  (M,[uJ n.core r.1 n.no],r.2)
 else if n.kind=12 then
  let r:=(M.aU n.core.toNat).fN C n.no n.d0
  (M.Ag n.core.toNat r.1,if r.2.2.1 then [] else [fH 6 n.core r.2.1],r.2.2.2)
 else if n.kind=13 then
  let r:=(M.aU n.core.toNat).drop C n.no
  (M.Ag n.core.toNat r.1,[fH 7 n.core n.no],r.2)
 else if n.kind=7 then
  let r:=M.dS.iC C.aE n.no n.core
  (if r.2.1 then(M.oS r.1).rC (Ov C M.aK n.no) else M.oS r.1,[],r.2.2)
 else(M,[],15)
def cN.gH (M:cN) (A B D:Int):cN×Int:=
 let t:=M.bN.take C A B D
 if t.2.2≠0 then(M,t.2.2)
 else
  let r:=M.dN C t.2.1
  if r.2.2≠0 then(M,r.2.2)
  else
   let s:=t.1.mR C r.2.1
   if s.2≠0 then(M,s.2) else(r.1.dU s.1,0)
def cN.yY (M:cN) (bA:Int) (bG:Int):Int×Bool:=
 if C.fY bA then((M.dS.Ft<|bA/2).owner,!(M.dS.Ft<|bA/2).Ch&&vE bG (M.dS.Ft<|bA/2).owner) else(0,false)
def cN.fX (M:cN) (A:Int):cN×Int:=
 let r:=kJ C M.aK A<|M.yY C A
 if r.2.2≠0 then(M,r.2.2)
 else
  let s:=M.bN.mR C r.2.1
  if s.2≠0 then(M,s.2) else((M.dU s.1).rC r.1,0)
def cU.Xe (r:cU):Int:=(if r.busy=true/\r.cD.kind=0 then 1 else 0)+((r.aY.filter fun n=>decide<|n.kind=0).length:Int)
def iL (H:kQ) (l:Int):Int:=if C.fY l then cU.Xe (H l.toNat).1 else 0
def cN.mY (M:cN) (g:Int):Bool:=decide (M.dS.phase g=2)&& !(decide<|iL C M.aK (g*2)>0)&& !(decide<|iL C M.aK (g*2+1)>0)
def Dk (H:kQ) (g:Int):kQ:=fun i=>if(i:Int)=g*2\/(i:Int)=g*2+1 then((H i).1,(0,0)) else H i
def cN.Ci (M:cN) (A:Int):cN×Int:=
 if ¬(0<=A/\A<C.bB) then(M,10)
 else if M.mY C A=false then(M,16)
 else
  let r:=M.dS.over A
  match r.2.1 with
  |none=>(M,r.2.2)
  |some u=>cN.cM (if u.F3 then(M.oS r.1).rC (Dk M.aK u.cJ) else M.oS r.1) u.core.toNat 0 0
structure Do where
 kR:Int
 a:Int
 b:Int
 c:Int
 deriving DecidableEq
abbrev HS:=List Do
def Do.enc (d:Do):EK:=[I d.kR,I d.a,I d.b,I d.c]
def cN.sJ (M:cN) (d:Do):cN×Int:=
 if d.kR=0 then M.step C d.a else if d.kR=1 then M.gH C d.a d.b d.c else if d.kR=2 then M.fX C d.a else if d.kR=3 then M.Ci C d.a else(M,1)
def cN.yC (M:cN):HS->Nat->cN×Nat×Int
 |[],k=>(M,k,0)
 |d::l,k=>if(M.sJ C d).2≠0 then((M.sJ C d).1,k,(M.sJ C d).2) else cN.yC (M.sJ C d).1 l (k+1)
def cN.gf (M:cN):HM:=(List.range C.aE.toNat).flatMap fun c=>(List.range 4).flatMap fun w=>M.bN c w
def cN.over (M:cN):Bool:=
 decide (M.gf C=[])&&((List.range C.aE.toNat).all fun i=>(M.aC i).over&& !(M.aJ i).pY&& !(M.aU i).eN)&&((List.range C.aF).all fun l=>decide<|(M.aK l).1.aY=[])
def cN.ready (M:cN):HS:=
 ((List.range C.aE.toNat).filter fun i:Nat=> !(M.aC i).over&& !M.aY i).map (fun i:Nat=>(⟨0,i,0,0⟩:Do))++
 ((List.range C.aE.toNat).flatMap fun c=>((List.range 4).filter fun w=>decide<|M.bN c w≠[]).map fun w:Nat=>(⟨1,c,w,0⟩:Do))++
 ((List.range C.aF).filter fun l=> !(M.aK l).1.busy&&decide ((M.aK l).1.aY≠[])).map (fun l:Nat=>(⟨2,l,0,0⟩:Do))++
 ((List.range C.bB.toNat).filter fun g:Nat=>M.mY C g).map fun g:Nat=>(⟨3,g,0,0⟩:Do)
structure MC where
 C:bT
 zF:List (HO)
 aOp:EL
 cK:EL
 tO:EL
def MC.aK (c:MC):kQ:=fun i=>((vH c.C.aF i).1,At.tO sU c.tO 0 i)
def MC.lK (c:MC):cN where
 aC:=fun i=>yB (c.zF.getD i [])<|c.aOp.getD i 0
 aJ:=fun _=>iJ.lK
 aU:=fun _=>M7
 aK:=c.aK
 dS:=⟨c.cK.map fun o=>⟨o,false⟩,fun _=>none⟩
 bN:=fun _ _=>[]
 jW:=[]
end Go.Mc
namespace Go.Ct
def aEd (s:Array UInt8) (a b c d:Bool) (x y z:Int):EK:=[.string ⟨s⟩,.bool a,.bool b,.bool c,.bool d,I x,I y,I z]
def mL:EK:=aEd #[73] false false false false 0 0 0++aEd #[83] true false false false 0 1 0++aEd #[69] true true false true 4 1 0++aEd #[79] true false true true 0 3 0++aEd #[77] true true true true 4 3 0
end Go.Ct
variable {a:Int}
namespace Go.Ct
open Go.Hm
variable {S:Nat->HN}
variable {n ways:Nat} {no:Int} {x:tJ}
theorem Wa {l:HN} (h:no∉l.map (·.1)):xI no l=l:=by
 induction l with
 |nil=>rfl
 |cons t l a=>
  grind[xI]
def aJy {l:HN} (a:(l.map (·.1)).Nodup):xI no (xI no l)=xI no l:=Wa<|Ng a
theorem iq {l:HN} (h:get no l=some x):(xI no l).length<l.length:=by
 rw[Ij,h];have:=X0 h;grind
theorem Ey (a:(cI n S no).2=0):get no (S<|cB n no)=some (cI n S no).1/\0<=no:=by
 grind[cI]
theorem du (b:∀i,qA ways<|S i) (c:(cI n S no).2=0):(nM n ways S no x).2=0:=by
 obtain⟨a,e⟩:=Ey c;have:=iq a;have:=(b<|cB n no).len;unfold nM;grind
theorem tr (a:0<=no):lT n S no (cB n no)=xI no (S<|cB n no):=by
 unfold lT bJ;simp_all[aXf,aXg]
def Z8 (a:∀i,qA ways<|S i) (b:(cI n S no).2=0):aFa n ways S no=0:=by
 obtain⟨c,e⟩:=Ey b;have:=iq c;have:=(a<|cB n no).len;unfold aFa;rw[aXg b];unfold nM;rw[tr e,aJy (a _).nd,aab]
def Oi (b:∀i,qA ways<|S i) (e:0<=no) (a:(nM n ways S no x).2=0):cI n (nM n ways S no x).1 no=(x,0):=by
 unfold nM at a ⊢;split at a;cases a;rename_i c;rw[aXf c];unfold cI bJ;rw[aab];dsimp only;rw[aXg rfl,aC5<|Ng (b _).nd]
theorem eu (b:∀i,qA ways<|S i) (a:(cI n S no).2=0):cI n (H7 n ways S no) no=cI n S no:=by
 obtain⟨f,c⟩:=Ey a;have e:=Z8 b a;unfold aFa at e;rw[aXg a] at e;unfold H7;rw[aXg a,Oi (xA b) c e];grind
theorem Y1 {l:Int} {w:Bool} (h:oD n S l a w=true):oD n S l a false=true:=by
 grind[oD,yZ,He,ff]
end Go.Ct
variable {l:EM} {bA c st w x:Int} {k:Nat} {j:Int->Int×Bool}
namespace Go.Hm
structure wR (k:Nat) (r:cU):Prop where
 core:0<=r.cD.core/\r.cD.core<4
 owner: -1<=r.owner/\r.owner<4
 aY:∀n∈r.aY,n.bA=k/\(0<=n.core/\n.core<4)/\(n.kind=0\/n.kind=1\/n.kind=2\/n.kind=3)
 iS:∀i:Nat,i<4->r.sh i=true->(i:Int)≠r.owner
 gM:r.busy=true->r.eZ=false->r.cD.kind=0\/r.cD.kind=2\/r.owner≠r.cD.core
 yN:r.eZ=true\/r.busy=false->r.qT=true
 gb:r.eZ=true->r.busy=true
variable {r:cU}
def wR.inv (h:wR k r):r.pK:=⟨h.core,h.owner,fun n a=>(h.aY n a).2.1⟩
def aRf (k:Nat):wR k G9:=⟨ET,ET,by simp[G9],by simp[G9],by simp[G9],fun _=>rfl,by simp[G9]⟩
theorem Es {r':cU} (h:r'.iH=r.iH):r'.qT=r.qT:=by grind[cU.qT]
theorem Lq (h:wR k r):wR k (r.jI c) where
 core:=h.core
 owner:=by unfold cU.jI;simp only;split;omega;exact h.owner
 aY:=h.aY
 iS:=fun i f a=>by
  unfold cU.jI yG at a ⊢;simp only at a ⊢;split at a;cases a;split;omega;exact h.iS i f a
 gM:=fun b e=>by
  rcases h.gM b e with h|h|g;exact .inl h;exact .inr<|.inl h;refine .inr<|.inr ?_;have:=h.core;grind[cU.jI]
 yN:=fun b=>(Es (r':=r.jI c) rfl).trans<|h.yN b
 gb:=h.gb
def Ud (h:wR k r) (b:r.qT=true):wR k r.iW where
 core:=by show(0:Int)<=0/\(0:Int)<4;omega
 owner:=h.owner
 aY:=h.aY
 iS:=h.iS
 gM:=fun a=>by cases a
 yN:=fun _=>(Es (r':=r.iW) rfl).trans b
 gb:=fun a=>by cases a
theorem Ts {n:aI} (h:wR k r) (a:n.bA=k) (b:0<=n.core/\n.core<4) (c:n.kind=0\/n.kind=1\/n.kind=2\/n.kind=3):wR k (r.mX n) where
 core:=h.core
 owner:=h.owner
 aY:=fun m hm=>by
  rcases cL.1 hm with hm|hm;exact h.aY m hm;grind
 iS:=h.iS
 gM:=h.gM
 yN:=fun a=>(Es (r':=r.mX n) rfl).trans<|h.yN a
 gb:=h.gb
def zx {n:aI} {w:HM} (h:wR k r) (c:r.aY=n::w):wR k (r.next w) where
 core:=h.core
 owner:=h.owner
 aY:=fun m b=>h.aY m (by rw[c];exact eK _ b)
 iS:=h.iS
 gM:=h.gM
 yN:=fun a=>(Es (r':=r.next w) rfl).trans<|h.yN a
 gb:=h.gb
structure Kq (k:Nat) (r:cU):Prop where
 core:0<=r.cD.core/\r.cD.core<4
 owner: -1<=r.owner/\r.owner<4
 aY:∀n∈r.aY,n.bA=k/\(0<=n.core/\n.core<4)/\(n.kind=0\/n.kind=1\/n.kind=2\/n.kind=3)
 iS:∀i:Nat,i<4->r.sh i=true->(i:Int)≠r.owner
 gM:r.cD.kind=0\/r.cD.kind=2\/r.owner≠r.cD.core
 busy:r.busy=true
 gr:r.eZ=false
def Kq.aM6 (h:Kq k r):wR k r:=⟨h.core,h.owner,h.aY,h.iS,fun _ _=>h.gM,fun a=>by rw[h.busy,h.gr] at a;simp at a,fun a=>by rw[h.gr] at a;cases a⟩
variable {d:Ln}
theorem Gw (h:Kq k r) (e:r.cD.kind≠0) (b:r.qT=true):wR k (r.jK bA d).1:=by
 have f:=h.core;unfold cU.jK;split;exact⟨h.core,ES,h.aY,ES,ES,fun _=>b,fun _=>h.busy⟩;split;refine⟨h.core,ES,h.aY,fun i c a=>?_,ES,fun _=>b,fun _=>h.busy⟩;grind[yG];refine⟨h.core,h.owner,h.aY,fun i c a=>?_,ES,fun _=>b,fun _=>h.busy⟩;simp only[yG] at a ⊢;split at a;rcases h.gM with h|h|h;grind;grind;grind;exact h.iS i c a
def Ei (h:Kq k r):wR k (r.kV l):=Kq.aM6 ⟨h.core,h.owner,h.aY,h.iS,h.gM,h.busy,h.gr⟩
variable {m:Ln}
theorem z8 (h:Kq k r):wR k (r.rest bA m).1:=by
 unfold cU.rest;split;rename_i a;split;exact Ud h.aM6 a;grind[Gw];exact h.aM6
theorem kc {n:aI} (h:wR k r) (o:0<=n.core/\n.core<4) (l:r.iH n.core.toNat=true):Kq k (r.mC n):=by
 have f:r.qT=false:=by
  have:n.core.toNat=0\/n.core.toNat=1\/n.core.toNat=2\/n.core.toNat=3:=ER
  unfold cU.qT;grind
 have b:r.eZ=false:=by
  cases b:r.eZ with
  |false=>rfl
  |true=>have:=h.yN<|.inl b;grind
 have a:r.busy=true:=by
  cases a:r.busy with
  |true=>rfl
  |false=>have:=h.yN<|.inr a;grind
 have e:Kq k (r.qG n):=⟨h.core,h.owner,h.aY,h.iS,h.gM a b,a,b⟩;have g:Kq k ((r.qG n).Ko n):=⟨h.core,by show -1<=(-1:Int)/\(-1:Int)<4;omega,h.aY,fun i m _=>by show(i:Int)≠ -1;omega,by
  have:=h.core;right;right;show(-1:Int)≠r.cD.core;omega,a,b⟩
 have j:∀{r:cU},Kq k r->Kq k (r.vL n):=fun h=>⟨h.core,h.owner,h.aY,h.iS,h.gM,h.busy,h.gr⟩;unfold cU.mC;split;have:=Lq (c:=n.core) e.aM6;exact⟨this.core,this.owner,this.aY,this.iS,this.gM a b,a,b⟩;grind
theorem yi {x:rU} {n:aI} (h:wR k x.1) (e:dN n.kind) (c:n.bA=k) (b:0<=n.core/\n.core<4):wR k (rU.take x k n).1.1:=by
 unfold rU.take;split;split;exact h;have a:x.1.eZ=true:=by
  cases a:x.1.eZ with
  |true=>rfl
  |false=>grind
 exact Ud h<|h.yN<|.inl a;split;split;exact h;exact z8<|kc h b ES;grind[Ts,dN]
theorem M4:∀(f i:Nat),r.Cd x f i≠ -1->r.kL x f i≠[]:=by
 intro f;induction f with
 |zero=>intro i h;exact absurd rfl h
 |succ f a=>
  grind[cU.Cd,cU.kL]
theorem Zo:∀(f i:Nat),∀c∈r.kL x f i,(c:Int)≠x:=by
 intro f;induction f with
 |zero=>grind[cU.kL]
 |succ f a=>
  grind[cU.kL,cU.vB]
def aI.Ae (n:aI):aI:=if n.kind=0 then {n with core:= -1} else n
theorem Re {n:aI} (e:r.cD.core=n.core) (b:n.kind=1\/n.kind=2) (c:n.bA=k):(∀m∈(r.jK k d).2,m.aMe n.Ae (r.jK k d).2.length)/\(r.jK k d).2≠[]:=by
 have f:n.Ae=n:=GR
 rw[f];unfold cU.jK;split;refine⟨fun m a=>?_,EV⟩;rw[c7.1 a];exact⟨c.symm,rfl,.inl ⟨rfl,e,rfl,b⟩⟩;split;refine⟨fun m a=>?_,EV⟩;rw[c7.1 a];exact⟨c.symm,rfl,.inl ⟨rfl,e,rfl,b⟩⟩;refine⟨fun m a=>?_,EV⟩;rw[c7.1 a];exact⟨c.symm,rfl,.inl ⟨rfl,e,rfl,b⟩⟩
theorem D9 {n:aI} (e:n.bA=k) (h:n.kind=1\/n.kind=2\/(n.kind=0/\st=0)) (hc:∀c∈l,(c:Int)≠n.Ae.core) {len:Nat}:∀m∈kT k st l,m.aMe n.Ae len:=by
 intro m f;obtain⟨c,a,rfl⟩:=gL.1 f;have b:n.Ae.bA=k:=by unfold aI.Ae;split<;>exact e
 have g:n.Ae.kind=n.kind:=by unfold aI.Ae;split<;>rfl
 refine⟨b.symm,rfl,.inr<|.inr<|.inr ⟨rfl,rfl,hc c a,?_⟩⟩;grind
theorem aJb {n:aI} (h:wR k r) (hb:r.busy=false) (g:n.bA=k) (i:0<=n.core/\n.core<4) (q:n.kind=1\/n.kind=2):
  wR k (r.get k m n w).1/\(∀x∈(r.get k m n w).2,x.aMe n.Ae (r.get k m n w).2.length)/\(r.get k m n w).2≠[]:=by
 have s:=h.yN<|.inr hb
 have a:r.eZ=false:=by
  cases a:r.eZ with
  |false=>rfl
  |true=>have:=h.gb a;grind
 have j:n.Ae=n:=GR
 unfold cU.get
 simp only
 split
 .rename_i p;have l:Kq k (r.pJ n w):=⟨i,h.owner,h.aY,h.iS,.inr<|.inl p,rfl,a⟩;unfold cU.qy;split
  .rename_i b;refine⟨Ei l,?_,?_⟩
   .exact D9 g ER (fun c f=>by rw[j];exact Zo 4 0 c f)
   .intro e;exact(M4 4 0 b) (List.map_eq_nil_iff.1 e)
  .exact⟨Gw l (by show n.kind≠0;omega) s,Re rfl q g⟩
 .have t:(r.pJ n w).xK.cD=n/\(r.pJ n w).xK.iH=r.iH/\((r.pJ n w).xK.owner= -1\/((r.pJ n w).xK.owner=r.owner/\r.owner≠n.core))/\Kq k (r.pJ n w).xK:=by
   unfold cU.xK;split;refine⟨rfl,rfl,.inl rfl,⟨i,ES,h.aY,ES,.inr<|.inr ?_,rfl,a⟩⟩;show(-1:Int)≠n.core;omega;rename_i b;exact⟨rfl,rfl,.inr ⟨rfl,b⟩,⟨i,h.owner,h.aY,h.iS,.inr<|.inr b,rfl,a⟩⟩
  obtain⟨u,v,y,o⟩:=t
  unfold cU.il
  split
  .refine⟨Ei o,D9 g (.inl ER) fun c f=>?_,by simp[kT]⟩;rw[c7.1 f,j];have:=o.owner;omega
  grind[Gw,Es,Re]
theorem aA4 {n:aI} (h:wR k r) (hb:r.busy=false) (e:n.bA=k) (l:0<=n.core/\n.core<4) (o:n.kind=0\/n.kind=1\/n.kind=2\/n.kind=3):
  wR k (r.kN k m n j).1.1/\(∀x∈(r.kN k m n j).2,x.aMe n.Ae (r.kN k m n j).2.length)/\((r.kN k m n j).2≠[]\/n.Ae.kind=0):=by
 have c:r.eZ=false:=by
  cases c:r.eZ with
  |false=>rfl
  |true=>have:=h.gb c;grind
 unfold cU.kN
 split
 .rename_i i;have a:n.Ae=n:=GR
  refine⟨Lq h,fun x f=>?_,.inl EV⟩
  rw[c7.1 f,a]
  exact⟨e.symm,rfl,.inr<|.inr<|.inl ⟨rfl,rfl,rfl,rfl,i⟩⟩
 .split
  .rename_i b;have a:n.Ae=n:=GR
   split
   .grind[aJb]
   .refine⟨h,fun x f=>?_,.inl EV⟩;rw[c7.1 f,a];exact⟨e.symm,rfl,.inr<|.inl ⟨rfl,rfl,rfl,rfl,b⟩⟩
  .have g:n.kind=0:=ER
   have a:n.Ae={n with core:= -1}:=by unfold aI.Ae;rw[aXg g]
   split
   .grind
   .exact⟨Ei ⟨l,h.owner,h.aY,h.iS,.inl g,rfl,c⟩,D9 e ER ES,.inr ES⟩
theorem Ep:(r.jK bA d).1.aY=r.aY:=by
 grind[cU.jK]
theorem nq:(r.rest bA m).1.aY=r.aY:=by
 unfold cU.rest;split;split;rfl;exact Ep;rfl
theorem Y3 {n:aI}:(r.mC n).aY=r.aY:=by
 unfold cU.mC;repeat' split
 all_goals rfl
theorem xp {n:aI}:(r.get bA m n w).1.aY=r.aY:=by
 have a:(r.pJ n w).xK.aY=r.aY:=by unfold cU.xK;split<;>rfl
 unfold cU.get;simp only;split;unfold cU.qy;split;rfl;exact Ep;unfold cU.il;split;exact a;grind[Ep]
theorem Zn {n:aI}:(r.kN bA m n j).1.1.aY=r.aY:=by
 unfold cU.kN;split;rfl;split;grind[xp];split<;>rfl
theorem Uq:(r.jK bA d).2.length<=4:=by
 grind[cU.jK]
theorem Og:(kT bA st l).length=l.length:=by simp[kT]
theorem aKe {n:aI}:(r.get bA m n w).2.length<=4:=by
 grind[cU.get,cU.qy,Og,Ef,Uq,cU.il]
theorem zt {n:aI}:(r.kN bA m n j).2.length<=4:=by
 grind[cU.kN,aKe,Og,Ef]
theorem U9 {C:bT} {H:kQ} {l:Int}:(kJ C H l j).2.1.length<=4:=by
 grind[kJ,rU.fX,zt]
end Go.Hm
variable {g v:Int} {N i:Nat}
namespace Go.Mc
open Go.Hm Go.At Go.Is Go.Ct Go.Nt
variable {C:bT} {m:gV} {F:fI} {M:cN} {n:aI} {b:Int} {s:aT} {r:aT×Ev}
structure jL (C:bT) (m:gV):Prop where
 len:m.eB.length=C.bB.toNat
 oA:∀x∈m.eB,0<=x.owner/\x.owner<=4
 run:∀g r,m.lS g=some r->(g:Int)<C.bB/\r.cJ=g/\(r.phase=1\/r.phase=2)/\(0<=r.core/\r.core<C.aE)/\(0<=r.Cy/\r.Cy<=4)
def gq (Cf:bT) (F:fI):Prop:=∀c w,(F c w).length<=Cf.eT
theorem jL.Ft (h:jL C m) (a:m.fY g):0<=(m.Ft g).owner/\(m.Ft g).owner<=4:=by
 refine h.oA _ ?_;grind[gV.fY,gV.Ft]
def jL.aTf (hC:C.Ok) (a:jL C m):∀g r,m.lS g=some r->g<16:=by
 intro g r b;have:=(a.run g r b).1;have:=hC.2.1;omega
def gq.O7 {Cf:bT} (hC:Cf.Ok) (h:gq Cf F):∀c w,(F c w).length<=500:=by
 intro c w;have:=h c w;have:=hC.2.2.2.2.1;omega
structure aG4 (Cf:bT) (M:cN) (i:Nat):Prop where
 dS:jL Cf M.dS
 gP:(M.aC i).Ok
 Jt:kK Cf (M.aJ i)
 mZ:(M.aU i).cC.length<=100
 bN:gq Cf M.bN
 jW:M.jW.length<=2^30
structure Ca (Cf:bT) (M:cN) (n:aI):Prop where
 core:0<=n.core/\n.core<Cf.aE
 dS:jL Cf M.dS
 aK:yT Cf M.aK (2^30 - 4)
 Jt:kK Cf (M.aJ n.core.toNat)
 mZ:(M.aU n.core.toNat).cC.length<=100
 cJ:0<=(M.aU n.core.toNat).cJ/\(M.aU n.core.toNat).cJ<Cf.bB
 cS:n.kind=12->0<=n.d0/\n.d0<=1000000
structure et (C:bT) (n:aI):Prop where
 mZ:mZ C n=0
 cS:n.kind=12->0<=n.d0/\n.d0<=1000000
def X7 (C:bT) (N:Nat) (H:kQ):Prop:=∀l,l<C.aF->wR l (H l).1/\(H l).1.aY.length<=N
structure M9 (C:bT) (F:fI):Prop where
 len:gq C F
 Ss:∀c w,∀n∈F c w,et C n/\n.core.toNat=c/\dO n=w
def Cq (C:bT) (c:lX):Prop:=(c.cC.length:Int)<=C.lI/\0<=c.cJ/\c.cJ<C.bB
structure eO (C:bT) (N:Nat) (M:cN):Prop where
 dS:jL C M.dS
 gP:∀i:Nat,(i:Int)<C.aE->(M.aC i).Ok
 Jt:∀i:Nat,(i:Int)<C.aE->kK C (M.aJ i)
 mZ:∀i:Nat,(i:Int)<C.aE->Cq C (M.aU i)
 aK:X7 C N M.aK
 bN:M9 C M.bN
 jW:M.jW.length<=N
theorem X7.h {H:kQ} (h:X7 C N H) {K:Nat} (b:N<=K):yT C H K:=fun l a=>⟨(h l a).1.inv,hI (h l a).2 b⟩
theorem Cq.len (hC:C.Ok) {c:lX} (h:Cq C c):c.cC.length<=100:=by
 have:=h.1;grind[bT.Ok]
def eO.step (h:eO C N M) (hC:C.Ok) (b:N<=2^29) (a:(i:Int)<C.aE):aG4 C M i:=⟨h.dS,h.gP i a,h.Jt i a,(h.mZ i a).len hC,h.bN.len,by have:=h.jW;omega⟩
def Jc (h:mZ C n=0):Sq n.kind/\0<=n.core/\n.core<C.aE:=by
 unfold Nt.mZ at h;split at h
 .rename_i c;split at h
  .split at h
   .rename_i i;refine⟨c,?_⟩;have a:=i.1;unfold Sq at c;have:∃b,Hw n.kind.toNat=1::b:=by
     rcases k14 (k:=n.kind.toNat) ER with e|e|e|e|e|e|e|e|e|e|e|e|e|e;omega;all_goals rw[e];exact⟨_,rfl⟩
    obtain⟨b,f⟩:=this;rw[f] at a;unfold mB at a;split at a;rename_i g;exact g;cases a
   cases h
  cases h
 cases h
def aAn (h:mZ C n=0) (b:n.kind=8):n.state=1\/n.state=2\/n.state=4:=by
 unfold Nt.mZ at h;rw[b] at h;split at h;split at h;split at h;rename_i e;have a:=e.1;rw[show Hw _=[1,2,4,6,8,9] from rfl] at a;simp only[mB] at a;split at a;split at a;split at a;split at a;rename_i c;exact c;cases a;cases a;cases a;cases a;cases h;cases h;cases h
def aG9 (h:mZ C n=0) (f:n.kind=1\/n.kind=2\/n.kind=3\/n.kind=4\/n.kind=5\/n.kind=8\/n.kind=9\/n.kind=10\/n.kind=11):0<=n.bA/\n.bA<C.aF:=by
 unfold Nt.mZ at h;split at h;split at h;split at h;rename_i i;have a:=i.1;have:∃b,Hw n.kind.toNat=1::2::b:=by
  rcases f with e|e|e|e|e|e|e|e|e<;>rw[e]<;>exact⟨_,rfl⟩
 obtain⟨b,c⟩:=this;rw[c] at a;unfold mB at a;split at a;unfold mB at a;split at a;rename_i g;exact g;cases a;cases a;cases h;cases h;cases h
theorem dz (hF:M9 C F) (e:(F.take C a b c).2.2=0):et C (F.take C a b c).2.1/\(F.take C a b c).2.1∈F a.toNat b.toNat:=by
 unfold fI.take at e ⊢;by_cases g:(0<=a/\a<C.aE)/\(0<=b/\b<4);rw[aXf fun h=>h g] at e ⊢;by_cases i:F a.toNat b.toNat=[];grind;rw[aXf i];have m:0<(F a.toNat b.toNat).length:=ES;have l:(c % ((F a.toNat b.toNat).length:Int)).toNat<(F a.toNat b.toNat).length:=by
  have j:=BO c (show((F a.toNat b.toNat).length:Int)≠0 by omega);have k:=BM c (show(0:Int)<((F a.toNat b.toNat).length:Int) by omega);omega
 have f:(F a.toNat b.toNat).getD (c % ((F a.toNat b.toNat).length:Int)).toNat aI.zero∈F a.toNat b.toNat:=by
  grind
 exact⟨(hF.Ss _ _ _ f).1,f⟩;grind
theorem fq (hF:M9 C F):M9 C (F.take C a b c).1:=by
 unfold fI.take;split;exact hF;dsimp only;split;exact hF;constructor;intro x y;unfold fI.set;dsimp only;split;have:=hF.len x y;grind;exact hF.len x y;intro x y n e;unfold fI.set at e;dsimp only at e;split at e;have:=hF.Ss _ _ n<|List.mem_of_mem_eraseIdx e;grind;exact hF.Ss x y n e
theorem aIs (hF:M9 C F) (b:et C n) (a:((F n.core.toNat<|dO n).length:Int)<C.eT):M9 C (F.jZ n):=by
 constructor;intro x y;unfold fI.jZ fI.set;split;grind;exact hF.len x y;intro x y k hk;unfold fI.jZ fI.set at hk;split at hk;rename_i e;rcases cL.1 hk with hk|hk;rw[e.1,e.2];exact hF.Ss _ _ k hk;grind;exact hF.Ss x y k hk
theorem aCa:∀{l:HM} {F a:fI},M9 C F->(∀n∈l,et C n)->fI.xP C.eT F l=some a->M9 C a:=by
 intro l;induction l with
 |nil=>intro F a hF _ h;cases h;exact hF
 |cons n l b=>
  grind[fI.xP,aIs,List.mem_cons_self,List.mem_cons_of_mem]
theorem P6:∀{l:HM},aU C l=0->∀n∈l,Nt.mZ C n=0
 |[],_,n,a=>by cases a
 |k::l,h,n,a=>by
  unfold aU at h;split at h;grind;rcases j2.1 a with rfl|a;grind;exact P6 h n a
theorem Dl {l:HM} (hF:M9 C F) (c:∀n∈l,n.kind=12->0<=n.d0/\n.d0<=1000000):M9 C (F.mR C l).1:=by
 unfold fI.mR;split;exact hF;split;rename_i e b;exact aCa hF (fun n a=>⟨P6 ES n a,c n a⟩) b;exact hF
def Ys (a:s.Ok) (h:s.over=false):aMc (hQ s.prog s.at') s.prog.length/\s.at'<s.prog.length:=by
 have b:=a.2.2.1;rw[h] at b;have c:=Ez b.symm;exact⟨Jj<|a.2.2.2.2 _<|Ec a.1 c,c⟩
theorem sW {t:aT} (e:s.Ok) (f:t.prog=s.prog) (b:0<=a) (c:a<=s.prog.length):(t.iO a).Ok:=by
 grind[aT.Ok,aT.iO]
theorem aCn (a:s.Ok) (h:aT.lM s i=some r):r.1.Ok:=by
 unfold aT.lM aT.lJ at h;cases hov:s.over with
 |true=>grind
 |false=>
  rw[hov] at h;simp only[aO,c9] at h;obtain⟨b,f⟩:=Ys a hov;have c:=a.1;split at h;cases h;exact sW a rfl ER ER;split at h;cases h;exact sW a rfl ER ER;split at h;grind[sW];split at h;split at h;cases h;exact sW a rfl ER ER;grind[sW];split at h;rename_i e;have:=b.p1 e;grind[sW];split at h;rename_i e;have:=b.p2 e;grind[sW];cases h
theorem aBb (a:s.Ok):(aT.cM s i v c).1.Ok:=by
 unfold aT.cM;cases hn:aT.lJ s with
 |none=>exact a
 |some x=>
  have b:s.over=false:=by
   unfold aT.lJ at hn;cases h:s.over with
   |false=>rfl
   |true=>grind
  obtain⟨f,g⟩:=Ys a b;have e:=a.1;dsimp only;split;exact sW a rfl ER ER;split;split;exact a;split;grind[sW];split;grind[sW];exact sW a rfl ER ER;exact a
theorem aFe (hC:C.Ok) {c:lX} {f:Int×Int} (h:Cq C c):Cq C (c.I0 C f):=by
 have a:1<=C.lI:=by unfold bT.Ok at hC;omega
 refine⟨?_,h.2⟩;unfold lX.I0;have:=h.1;grind
theorem aB0 {c:lX} (h:Cq C c):Cq C (c.fX C g).1:=by
 unfold lX.fX;split;exact h;split;exact h;split;exact h;refine⟨h.1,?_⟩;show 0<=g/\g<C.bB;grind
def aA5 (hC:C.Ok) {c:lX} (h:Cq C c):Cq C (c.fN C a w).1:=by
 have b:1<=C.bB:=hC.2.1.1;unfold lX.fN;split;exact h;split;exact h;split;exact h;dsimp only;split;exact h;split;exact h;split;exact h;refine⟨(aFe hC h).1,?_⟩;show(0:Int)<=0/\(0:Int)<C.bB;omega
theorem aLr {c:lX} (h:Cq C c):Cq C (c.drop C g).1:=by
 unfold lX.drop;split;exact h;refine⟨?_,h.2⟩;have:=h.1;grind
variable {H:kQ} {d:Do}
theorem eO.mono {K:Nat} (h:eO C N M) (b:N<=K):eO C K M:=⟨h.dS,h.gP,h.Jt,h.mZ,fun l a=>⟨(h.aK l a).1,hI (h.aK l a).2 b⟩,h.bN,hI h.jW b⟩
theorem W4 {α:Type} {P:α->Prop} {s:Nat->α} {t:α} {n:Int} (h:∀j:Nat,(j:Int)<n->P (s j)) (a:P t):∀j:Nat,(j:Int)<n->P (bJ s i t j):=by
 grind[bJ]
theorem eO.dU (h:eO C N M) (hF:M9 C F):eO C N (M.dU F):={h with bN:=hF}
theorem eO.oS (h:eO C N M) (a:jL C m):eO C N (M.oS m):={h with dS:=a}
def eO.rC (h:eO C N M) {K:Nat} (a:N<=K) (hH:X7 C K H):eO C K (M.rC H):={h.mono a with aK:=hH}
def eO.rT (h:eO C N M) {c:iJ} (hc:kK C c):eO C N (M.rT i c):={h with Jt:=W4 h.Jt hc}
def eO.Ag (h:eO C N M) {c:lX} (hc:Cq C c):eO C N (M.Ag i c):={h with mZ:=W4 h.mZ hc}
def eO.kI (h:eO C N M) {c:aT} (hc:c.Ok):eO C N (M.kI i c):={h with gP:=W4 h.gP hc}
def eO.V2 (h:eO C N M) {v:Ev}:eO C (N+1) (M.V2 v):={h.mono (qv N) with jW:=by rw[bj,kd];have:=h.jW;omega}
theorem aK7 (h:jL C m) (a:m.fY g):0<=(m.Ft g).owner/\(m.Ft g).owner<=4:=by
 refine h.oA _ ?_;grind[gV.fY,gV.Ft]
theorem uz (h:jL C m) {g:Nat} {x:iF} (b:0<=x.owner/\x.owner<=4):jL C (m.y1 g x):=
 ⟨by show(m.eB.set g x).length=_;rw[ri];exact h.len,fun y a=>by
  rcases List.mem_or_eq_of_mem_set a with a|rfl;exact h.oA y a;exact b,h.run⟩
theorem Ve (h:jL C m) {g:Nat} {x:Option Mc.mE} (b:∀r,x=some r->(g:Int)<C.bB/\r.cJ=g/\(r.phase=1\/r.phase=2)/\(0<=r.core/\r.core<C.aE)/\(0<=r.Cy/\r.Cy<=4)):jL C (m.dL g x):=
 ⟨h.len,h.oA,fun k r a=>by
  unfold gV.dL bJ at a;dsimp only at a;split at a;grind;exact h.run k r a⟩
theorem aHd {o t:Int}:0<=(oE c w o t).1/\(oE c w o t).1<=4:=by
 grind[oE]
theorem aD2 (h:jL C m) {a:Mc.Yc}:jL C (m.call C.aE a).1:=by
 unfold gV.call;split;exact h;rename_i c;split;exact h;have b:m.fY a.cJ:=ES;split;exact h;split;exact h;dsimp only;split;exact h;have f:=h.len;unfold gV.fY at b;refine Ve (uz h (x:=⟨_,true⟩)<|aK7 h b) fun r e=>?_;cases e;refine⟨ER,?_,.inl rfl,og.1 c,aHd⟩;show a.cJ=_;omega
theorem Li (h:jL C m):jL C (m.iC C.aE g c).1:=by
 unfold gV.iC;split;exact h;split;exact h;rename_i r f;split;exact h;split;exact h;unfold gV.run at f;split at f;refine Ve h fun j i=>?_;cases i;obtain⟨a,b,c,d,e⟩:=h.run _ r f;grind[mE.mY,mE.mC];cases f
theorem Zb (h:jL C m):jL C (m.over g).1/\∀u,(m.over g).2.1=some u->0<=u.core/\u.core<C.aE:=by
 unfold gV.over;split;grind;split;grind;rename_i r f;split;grind;unfold gV.run at f;split at f;obtain⟨a,b,c,d,e⟩:=h.run _ r f;grind[Ve,uz];cases f
theorem X7.tC (h:X7 C N H) {l:Nat} {x:rU} (b:wR l x.1) (c:x.1.aY.length<=N+1):X7 C (N+1) (bJ H l x):=by
 intro k a;unfold bJ;split;grind;exact⟨(h k a).1,tb (h k a).2⟩
theorem X7.mono {K:Nat} (h:X7 C N H) (b:N<=K):X7 C K H:=fun l a=>⟨(h l a).1,hI (h l a).2 b⟩
def Sw {l:Int} (h:X7 C N H):X7 C (N+1) (oW C H l).1:=by
 unfold oW;split;rename_i a;obtain⟨k,rfl⟩:=cb a.1;obtain⟨b,c⟩:=h k (by have:=a.2;omega);refine h.tC (Ts b rfl (by show(0:Int)<=0/\(0:Int)<4;omega)<|.inl rfl) ?_;show((H k).1.aY++[Hd k]).length<=N+1;simp;omega;exact h.mono<|qv N
theorem aEj (hC:C.Ok) (h:X7 C N H):X7 C (N+1) (gJ C H n).1:=by
 have i:=hC.1;unfold gJ;split;exact h.mono<|qv N;split;rename_i j;obtain⟨k,c⟩:=j;obtain⟨l,a⟩:=cb c.1;obtain⟨e,f⟩:=h l (by have:=c.2;omega);rw[a];refine h.tC (yi e (ES) a ER) ?_;by_cases b:n.kind=4;unfold rU.take;rw[aXg b];split;grind;exact tb f;by_cases g:n.kind=5;unfold rU.take;grind[rU.S6,nq,Y3];unfold rU.take;rw[aXf b,aXf g];show((H l).1.aY++[n]).length<=N+1;simp;omega;exact h.mono<|qv N
theorem y4 {l:Int} (h:X7 C N H):X7 C (N+1) (kJ C H l j).1:=by
 unfold kJ;split;rename_i g;obtain⟨k,rfl⟩:=cb g.1;simp only[aP];obtain⟨e,i⟩:=h k (by have:=g.2;omega);unfold rU.fX;split;exact h.tC e ES;cases hw:(H k).1.aY with
 |nil=>exact h.tC e ES
 |cons n w=>
  have f:=e.aY n ES;obtain⟨a,b,c⟩:=aA4 (m:=(H k).2) (j:=j) (zx e hw) (show((H k).1.next w).busy=false from(by grind:(H k).1.busy=false)) f.1 f.2.1 f.2.2;refine h.tC a ?_;rw[Zn];show w.length<=N+1;grind
 exact h.mono<|qv N
def zk (h:X7 C N H):X7 C N (Dk H g):=by
 intro l a;unfold Dk;split;exact h l a;exact h l a
theorem xv {n:Int} (b:0<=n/\n<=16) (a:0<=g/\g<=100):0<=eP n g/\eP n g<=1000:=HI
theorem aHp {es:HR} (h:es.length<=16) (e:∀x∈es,0<=x.owner/\x.owner<=4):0<=(iG es a).1/\(iG es a).1<=1000000:=by
 have b:∀w∈nL es,0<=w/\w<=1000000:=by
  intro w hw;unfold nL at hw;rcases cL.1 hw with hw|hw;obtain⟨j,c,rfl⟩:=gL.1 hw;have c:=k7.1 c;unfold Si;split;grind;have:=xv (n:=es.length) (g:=((4*j:Nat):Int)) ER ER;omega;obtain⟨x,f,rfl⟩:=gL.1 hw;have:=e x f;unfold Wd;split<;>omega
 unfold iG;split;simp_all;grind
theorem Ds (h:eO C N M) (a:(i:Int)<C.aE):eO C (N+1) (M.cM i v c).1:=by
 unfold cN.cM;dsimp only;split;exact h.mono<|qv N;exact(h.kI<|aBb<|h.gP i a).V2
def KK (k:Int):Prop:=k=6\/k=7\/k=12\/k=13
theorem cz {l:HM} (h:∀n∈l,n.kind≠12):∀n∈l,n.kind=12->0<=n.d0/\n.d0<=1000000:=ES
def noK {l:HM} (h:∀n∈l,¬KK n.kind):∀n∈l,n.kind=12->0<=n.d0/\n.d0<=1000000:=cz fun n a e=>h n a (by unfold KK;omega)
def aQ0 (h:eO C N M) {a:Mc.Yc} (b:(i:Int)<C.aE):eO C (N+1) (M.call C i a).1:=by
 unfold cN.call;dsimp only;split;exact Ds h b;split;exact h.mono<|qv N;refine((h.dU<|Dl h.bN<|cz ?_).oS<|aD2 h.dS).mono (qv N);intro n c;obtain⟨k,_,rfl⟩:=gL.1 c;show(13:Int)≠12;omega
theorem aPc (h:eO C N M) (a:(i:Int)<C.aE):eO C (N+1) (M.Er C i g).1:=by
 unfold cN.Er;dsimp only;split;exact h.mono<|qv N;split;exact h.mono<|qv N;refine((h.dU<|Dl h.bN<|cz ?_).Ag<|aB0<|h.mZ i a).mono (qv N);intro n b;rw[c7.1 b];show(6:Int)≠12;omega
theorem aP0 {core:Int} {s:iJ} {l:Int} {wr:Bool}:∀n∈(gM C core s l w wr).2.1,¬KK n.kind:=by
 intro n a;unfold gM at a;split at a;cases a;split at a;cases a;split at a;cases a;split at a;cases a;grind[Co,tM,List.mem_singleton,KK]
theorem aO0 (h:eO C N M) {l:Int} {wr:Bool} (a:(i:Int)<C.aE):eO C (N+1) (M.gM C i l wr).1:=by
 unfold cN.gM;dsimp only;split;exact h.mono<|qv N;split;exact h.mono<|qv N;exact((h.dU<|Dl h.bN<|noK aP0).rT<|x9<|h.Jt i a).mono (qv N)
theorem aP3 (h:eO C N M) {l o:Int} {x:U3} (b:(i:Int)<C.aE):eO C (N+1) (M.jJ C i l a o x).1:=by
 refine Ds (h.rT ?_) b;have c:kK C (if x.Su=true then rR C (M.aJ i) l a o else M.aJ i):=by
  split;exact Kr<|h.Jt i b;exact h.Jt i b
 grind[qo]
theorem aDl (h:eO C N M) {a:U3} (b:(i:Int)<C.aE):eO C (N+1) (M.fV C i a).1:=by
 unfold cN.fV;split;exact Ds h b;dsimp only;split;exact h.mono<|qv N;grind[aPc,Ds,aO0,aP3]
def aPj (h:eO C N M):eO C (N+1) (M.step C a).1:=by
 unfold cN.step;split;exact h.mono<|qv N;have b:((a.toNat:Nat):Int)<C.aE:=ER
 dsimp only;split;exact h.mono<|qv N;split;exact h.mono<|qv N;split;rename_i r c;exact(h.kI<|aCn (h.gP _ b) c).V2;split;exact aQ0 h b;split;exact aDl h b;exact h.mono<|qv N
theorem ru {r:cU} {d:Ln}:∀n∈(r.jK bA d).2,¬KK n.kind:=by
 intro n a;unfold cU.jK at a;have e:∀s,(r.vP bA s d).kind=8:=fun _=>rfl;unfold KK;grind
theorem ag:∀n∈kT bA st l,¬KK n.kind:=by
 grind[kT,KK]
theorem aQb {r:cU} {m:Ln}:∀n∈(r.rest bA m).2,¬KK n.kind:=by
 grind[cU.rest,ru]
theorem xF:∀x∈(gJ C H n).2.1,¬KK x.kind:=by
 intro x a;unfold gJ at a;split at a;cases a;split at a;unfold rU.take at a;split at a;grind;split at a;split at a;cases a;exact aQb x a;cases a;cases a
theorem aRk {r:cU} {m:Ln}:∀x∈(r.get bA m n w).2,¬KK x.kind:=by
 grind[cU.get,cU.qy,ag,ru,cU.il]
theorem j4 {l:Int}:∀x∈(kJ C H l j).2.1,¬KK x.kind:=by
 intro x a;unfold kJ at a;split at a;unfold rU.fX at a;split at a;cases a;split at a;cases a;unfold cU.kN at a;split at a;rw[c7.1 a];show ¬KK 10;unfold KK;omega;split at a;split at a;exact aRk x a;rw[c7.1 a];show ¬KK 9;unfold KK;omega;grind[ag];cases a
theorem aLz {core:Int} {s:iJ}:∀x∈(jU C core s n).2.1,¬KK x.kind:=by
 intro x a;have e:∀y,(tY core n y).kind=5:=fun y=>by grind[tY]
 unfold jU yK Ll uK tT at a;repeat' split at a
 all_goals (unfold KK;grind)
def eO.take (h:eO C N M) (hC:C.Ok) (f:N<=2^29) (b:et C n):Ca C M n:=by
 obtain⟨e,c⟩:=Jc b.mZ;have a:((n.core.toNat:Nat):Int)<C.aE:=ER
 exact⟨c,h.dS,h.aK.h ER,h.Jt _ a,(h.mZ _ a).len hC,(h.mZ _ a).2,b.cS⟩
theorem aIx (h:eO C N M) (hC:C.Ok) (c:et C n):eO C (N+2) (M.dN C n).1/\∀x∈(M.dN C n).2.1,x.kind=12->0<=x.d0/\x.d0<=1000000:=by
 obtain⟨i,j⟩:=Jc c.mZ;have b:((n.core.toNat:Nat):Int)<C.aE:=ER
 have k:=h.dS.len;have g:=hC.2.1;unfold cN.dN;split;exact⟨(h.rC (qv N)<|aEj hC h.aK).mono<|qv _,noK xF⟩;split;refine⟨(h.rT<|yk ?_<|h.Jt _ b).mono ER,noK aLz⟩;intro f;have:=aAn c.mZ f;omega;split;refine⟨h.mono ER,fun x a _=>?_⟩;rw[c7.1 a];exact aHp ER h.dS.oA;split;refine⟨(h.Ag<|aA5 hC<|h.mZ _ b).mono ER,fun x a e=>?_⟩;dsimp only at a;split at a;cases a;rw[c7.1 a] at e;exact absurd e (by show(6:Int)≠12;omega);split;refine⟨(h.Ag<|aLr<|h.mZ _ b).mono ER,fun x a e=>?_⟩;rw[c7.1 a] at e;exact absurd e (by show(7:Int)≠12;omega);split;refine⟨?_,ES⟩;dsimp only;split;exact(h.oS<|Li h.dS).rC ER (Sw<|Sw h.aK);exact(h.oS<|Li h.dS).mono ER;exact⟨h.mono ER,ES⟩
theorem xd (h:eO C N M) (hC:C.Ok):eO C (N+2) (M.gH C a b c).1:=by
 unfold cN.gH;dsimp only;split;exact h.mono ER;rename_i g;obtain⟨e,f⟩:=aIx h hC (dz h.bN<|og.1 g).1;split;exact h.mono ER;split;exact h.mono ER;exact e.dU<|Dl (fq h.bN) f
def aM4 (h:eO C N M):eO C (N+2) (M.fX C a).1:=by
 unfold cN.fX;dsimp only;split;exact h.mono ER;split;exact h.mono ER;exact((h.dU<|Dl h.bN<|noK j4).rC (qv N)<|y4 h.aK).mono ER
def aDm (h:eO C N M):eO C (N+2) (M.Ci C a).1:=by
 obtain⟨b,c⟩:=Zb (g:=a) h.dS;unfold cN.Ci;split;exact h.mono ER;split;exact h.mono ER;dsimp only;split;exact h.mono ER;rename_i u e;have f:=c u e;refine(Ds (N:=N) ?_ ER).mono ER;split;exact(h.oS b).rC (ba N) (zk h.aK);exact h.oS b
theorem aE9 (h:eO C N M) (hC:C.Ok):eO C (N+2) (M.sJ C d).1:=by
 unfold cN.sJ;split;exact(aPj h).mono ER;split;grind[xd];split;exact aM4 h;split;exact aDm h;exact h.mono ER
def rp (i:Nat) (s:aT) (x:Ev):Option aT:=match aT.lM s i with
 |some r=>if r.2=x then some r.1 else none
 |none=>if(aT.cM s i x.value x.code).2.2=0/\(aT.cM s i x.value x.code).2.1=x then some (aT.cM s i x.value x.code).1 else none
def j6 (h:aT.lM s i=some r):r.2.core=i:=by
 unfold aT.lM at h;cases hn:aT.lJ s with
 |none=>rw[hn] at h;cases h
 |some x=>
  repeat' split at h
  all_goals first|cases h|skip
  all_goals rfl
theorem aGb (h:aT.lM s i=some r):rp i s r.2=some r.1:=by
 unfold rp;grind
theorem Xu (h:(aT.cM s i v c).2.2=0):aT.lM s i=none:=by
 unfold aT.cM at h;unfold aT.lM;cases hn:aT.lJ s with
 |none=>rfl
 |some x=>
  rw[hn] at h;unfold M6 at h;grind
theorem Mj (h:(aT.cM s i v c).2.2=0):(aT.cM s i v c).2.1.core=i:=by
 unfold aT.cM at h ⊢;cases hn:aT.lJ s with
 |none=>rw[hn] at h;cases h
 |some x=>
  repeat' split at h
  all_goals first|cases h|skip
  all_goals simp_all [aT.ev]
theorem T1 (h:(aT.cM s i v c).2.2=0):rp i s (aT.cM s i v c).2.1=some (aT.cM s i v c).1:=by
 unfold rp;rw[Xu h];have e:aT.cM s i (aT.cM s i v c).2.1.value (aT.cM s i v c).2.1.code=aT.cM s i v c:=by
  unfold aT.cM at h ⊢;cases hn:aT.lJ s with
  |none=>rfl
  |some x=>
   unfold aT.ev;grind
 grind
def rc (m:gV) (g:Nat):Option Int:=(m.lS g).map mE.core
structure aGr (M:cN):Prop where
 op:∀g c,rc M.dS g=some c->∃x,aT.lJ (M.aC c.toNat)=some x/\x.op=8
 rG:∀g g' c,rc M.dS g=some c->rc M.dS g'=some c->g=g'
theorem aA9 (hC:C.Ok) (a:jL C m):m.qS c=true↔∃g,rc m g=some c:=by
 unfold gV.qS gV.eE rc;rw[DX];constructor;rintro ⟨g,b,h⟩;unfold gV.oX at h;grind;rintro ⟨g,h⟩;cases hr:m.lS g with
 |none=>rw[hr] at h;cases h
 |some r=>
  refine⟨g,BB.2 ⟨k7.2<|a.aTf hC g r hr,by rw[hr];rfl⟩,?_⟩;unfold gV.oX;grind
inductive vW (C:bT) (d:Do) (M M':cN):Prop where
 |wS (h1:M'.aC=M.aC) (h2:M'.jW=M.jW) (h3:∀g,rc M'.dS g=rc M.dS g)
 |ev (i:Nat) (s:aT) (v:Ev) (hi:(i:Int)<C.aE) (hd:d.kR=0/\d.a=i) (hw:M.dS.qS i=false) (h1:M'.aC=bJ M.aC i s) (h2:M'.jW=M.jW++[v]) (hc:v.core=i) (hr:rp i (M.aC i) v=some s) (h3:∀g,rc M'.dS g=rc M.dS g)
 |vQ (i g:Nat) (hi:(i:Int)<C.aE) (hd:d.kR=0/\d.a=i) (hw:M.dS.qS i=false) (h1:M'.aC=M.aC) (h2:M'.jW=M.jW) (hx:∃x,aT.lJ (M.aC i)=some x/\x.op=8) (h3:∀g',rc M'.dS g'=if g'=g then some (i:Int) else rc M.dS g') (h0:rc M.dS g=none)
 |vC (i g:Nat) (s:aT) (v:Ev) (hi:(i:Int)<C.aE) (hd:d.kR=3) (hg:rc M.dS g=some (i:Int)) (h1:M'.aC=bJ M.aC i s) (h2:M'.jW=M.jW++[v]) (hc:v.core=i) (ho:v.op=8/\v.code=0) (ha:s.at'=(M.aC i).at'+1) (hr:rp i (M.aC i) v=some s) (h3:∀g',rc M'.dS g'=if g'=g then none else rc M.dS g')
def Bq (b:(i:Int)<C.aE) (a:d.kR=0/\d.a=i) (e:M.dS.qS i=false):vW C d M (M.cM i v c).1:=by
 unfold cN.cM;dsimp only;split;exact .wS rfl rfl fun _=>rfl;rename_i h;have h:=og.1 h;exact .ev i _ _ b a e rfl rfl (Mj h) (T1 h) fun _=>rfl
theorem aP5 {a:Mc.Yc} (h:aT.Vw s i=some a):a.core=i/\∃x,aT.lJ s=some x/\x.op=8:=by
 unfold aT.Vw at h;grind
theorem aDv {a:Mc.Yc} (m:eO C N M) (g:(i:Int)<C.aE) (f:d.kR=0/\d.a=i) (h:M.dS.qS i=false) (o:aT.Vw (M.aC i) i=some a):vW C d M (M.call C i a).1:=by
 obtain⟨k,l⟩:=aP5 o;unfold cN.call;dsimp only;split;exact Bq g f h
 .rename_i b;split;exact .wS rfl rfl fun _=>rfl
  .have b:=og.1 b;have e:rc M.dS a.cJ.toNat=none:=by
    unfold gV.call at b;split at b;cases b;split at b;cases b;rename_i n2;split at b;cases b;rename_i c;have j:0<=a.cJ:=(og.1 n2).1;have c:M.dS.phase a.cJ=0:=og.1 c;unfold gV.phase gV.run at c;rw[aXg j] at c;unfold rc;cases hr:M.dS.lS a.cJ.toNat with
    |none=>rfl
    |some r=>have:=(m.dS.run _ r hr).2.2.1;grind
   refine .vQ i a.cJ.toNat g f h rfl rfl l (fun p=>?_) e;unfold gV.call at b ⊢;repeat' split at b
   all_goals first|(revert b;simp;done)|skip
   rename_i n1 n2 c n4;rw[aXf n1,aXf n2,aXf c,aXf n4];dsimp only at b ⊢;split at b;grind;rename_i n5;rw[aXf n5];unfold rc gV.dL bJ;dsimp only;split;show some a.core=_;rw[k];rfl
theorem pe {a:U3} (j:(i:Int)<C.aE) (h:d.kR=0/\d.a=i) (m:M.dS.qS i=false):vW C d M (M.fV C i a).1:=by
 have wS:∀{r:cN},r.aC=M.aC->r.jW=M.jW->r.dS=M.dS->vW C d M r:=fun a b c=> .wS a b fun g=>by rw[c]
 unfold cN.fV;split;exact Bq j h m;dsimp only;split;grind;split;unfold cN.Er;grind;split;exact Bq j h m;split;unfold cN.gM;grind;rcases Bq (C:=C) (M:=M.rT i<|if a.dX=true then jH C (if a.Su=true then rR C (M.aJ i) (a.cS/2) (a.cS % 2) (M.cC i<|a.cS/2/2) else M.aJ i) (a.cS/2) (a.cS % 2) (M.cC i<|a.cS/2/2) a.value else if a.Su=true then rR C (M.aJ i) (a.cS/2) (a.cS % 2) (M.cC i<|a.cS/2/2) else M.aJ i) (d:=d) (v:=if a.Su=true then I3 C (M.aJ i) (a.cS/2) (a.cS % 2) else 0) (c:=0) j h m with⟨a,b,c⟩|⟨i,s,v,a,b,c,e,f,g,k,l⟩|⟨i,g,a,b,c,e,f,k,l,z⟩|⟨i,g,s,v,a,b,c,e,f,k,l,n,o,p⟩;exact .wS a b c;exact .ev i s v a b c e f g k l;exact .vQ i g a b c e f k l z;grind
def P9:∀k,rc (m.iC C.aE g c).1 k=rc m k:=by
 intro k;unfold gV.iC;split;rfl;split;rfl;rename_i r a;split;rfl;split;rfl;unfold gV.run at a;split at a;unfold rc gV.dL bJ;dsimp only;split;rename_i e;subst e;rw[a];rfl;rfl;cases a
def Kp:(M.dN C n).1.aC=M.aC/\(M.dN C n).1.jW=M.jW/\∀g,rc (M.dN C n).1.dS g=rc M.dS g:=by
 unfold cN.dN;repeat' split
 all_goals first
  |exact⟨rfl,rfl,fun _=>rfl⟩
  |skip
 dsimp only;split;exact⟨rfl,rfl,fun g=>P9 g⟩;exact⟨rfl,rfl,fun g=>P9 g⟩
def aJa {u:Mc.mE} (h:(m.over g).2.1=some u):rc m g.toNat=some u.core/\∀k,rc (m.over g).1 k=if k=g.toNat then none else rc m k:=by
 unfold gV.over at h ⊢;split at h;cases h;rename_i n1;rw[aXf n1];cases hr:m.run g with
 |none=>rw[hr] at h;cases h
 |some r=>
  rw[hr] at h;dsimp only at h ⊢;split at h;cases h;rename_i n2;rw[aXf n2];cases h;unfold gV.run at hr;split at hr;refine⟨by unfold rc;rw[hr];rfl,fun k=>?_⟩;unfold rc gV.dL bJ;dsimp only;split;rfl;rfl;cases hr
theorem U6 (hC:C.Ok) (p:eO C N M) (v:aGr M):vW C d M (M.sJ C d).1:=by
 have wS:∀{r:cN},r.aC=M.aC->r.jW=M.jW->(∀g,rc r.dS g=rc M.dS g)->vW C d M r:=fun a b c=> .wS a b c;unfold cN.sJ;split;rename_i l;unfold cN.step;split;grind;rename_i k;have k:=og.1 k;have h:((d.a.toNat:Nat):Int)<C.aE:=ER
 have e:d.kR=0/\d.a=(d.a.toNat:Nat):=⟨l,ER⟩;dsimp only;split;grind;split;grind;rename_i f;have f:M.dS.qS ((d.a.toNat:Nat):Int)=false:=by
  rw[<-e.2];unfold cN.aY at f;simpa using f
 split;rename_i r q;exact .ev _ _ _ h e f rfl rfl (j6 q) (aGb q) fun _=>rfl;split;rename_i a k;exact aDv p h e f k;split;exact pe h e f;grind
 .split
  .unfold cN.gH;dsimp only;repeat' split
   all_goals first
    |exact wS rfl rfl fun _=>rfl
    |exact wS Kp.1 Kp.2.1 Kp.2.2
  split;unfold cN.fX;grind;split;rename_i l;unfold cN.Ci;split;grind;split;grind;dsimp only;split;grind;rename_i u s;obtain⟨o,A⟩:=aJa s;have w:=(Zb (g:=d.a) p.dS).2 u s;obtain⟨i,h⟩:=cb w.1;obtain⟨x,B,t⟩:=v.op _ _ o;have y:∀P:cN,P.aC=M.aC->P.jW=M.jW->(∀g,rc P.dS g=if g=d.a.toNat then none else rc M.dS g)->vW C d M (P.cM i 0 0).1:=by
   intro P p1 D z;have j:aT.cM (P.aC i) i 0 0=(((M.aC i).dL x.b 0).iO<|(M.aC i).at'+1,aT.ev (M.aC i) i x ((M.aC i).cX x.b.toNat) ((M.aC i).cX x.c.toNat) 0,0):=by
    rw[p1];unfold aT.cM;grind
   have m:(aT.cM (M.aC i) i 0 0).2.2=0:=by rw[<-p1,j]
   unfold cN.cM;dsimp only;rw[aXf<|by rw[j];simp];refine .vC i d.a.toNat (aT.cM (P.aC i) i 0 0).1 (aT.cM (P.aC i) i 0 0).2.1 ER l (by rw[o,h]) ES ES ?_ ?_ ?_ ?_ z;rw[p1];exact Mj m;rw[j];exact⟨t,rfl⟩;rw[j];rfl;rw[p1];exact T1 m
  grind;grind
variable {M':cN}
def su (a:jL C m) {g:Nat} (h:rc m g=some c):0<=c/\c<C.aE:=by
 unfold rc at h;cases hr:m.lS g with
 |none=>rw[hr] at h;cases h
 |some r=>
  rw[hr] at h;cases h;exact(a.run g r hr).2.2.2.1
theorem aGr.out (hC:C.Ok) (p:eO C N M) (k:aGr M) (z:vW C d M M'):aGr M':=by
 have q:∀{i:Nat},M.dS.qS i=false->∀g c,rc M.dS g=some c->c.toNat≠i:=by
  intro i F g c f e;have m:=su p.dS f;have:c=i:=ER
  subst this;have:=(aA9 hC p.dS).2 ⟨g,f⟩;grind
 cases z with
 |wS m o h=>exact⟨fun g c f=>by rw[m];exact k.op g c<|by rw[<-h];exact f,fun g l c a b=>k.rG g l c (by rw[<-h];exact a)<|by rw[<-h];exact b⟩
 |ev i s v u t w m o y A h=>
  refine⟨fun g c f=>?_,fun g l c a b=>k.rG g l c (by rw[<-h];exact a)<|by rw[<-h];exact b⟩;rw[h] at f;rw[m];unfold bJ;rw[aXf<|q w g c f];exact k.op g c f
 |vQ i g u t w m o B h=>
  constructor;intro l c f;rw[h] at f;rw[m];split at f;cases f;exact B;exact k.op l c f;intro g1 g2 c a b;rw[h] at a b;split at a;grind;split at b;grind;exact k.rG g1 g2 c a b
 |vC i g s v u t f m o y G E A h=>
  constructor;intro l c j;rw[h] at j;split at j;cases j;rename_i r;rw[m];unfold bJ;have D:=su p.dS j;rw[aXf fun e=>r<|k.rG l g c j ES];exact k.op l c j;intro g1 g2 c a b;rw[h] at a b;split at a;cases a;split at b;cases b;exact k.rG g1 g2 c a b
def rps (i:Nat) (s:aT):List Ev->Option aT
 |[]=>some s
 |x::l=>if x.core=i then(match rp i s x with|some t=>rps i t l|none=>none) else rps i s l
def Xn {i:Nat}:∀{l:List Ev} {s t:aT} {x:Ev},rps i s l=some t->rps i s (l++[x])=if x.core=i then rp i t x else some t
 |[],s,t,x,h=>by
  cases h;show rps i s [x]=_;unfold rps;split;cases rp i s x<;>rfl;rfl
 |y::l,s,t,x,h=>by
  rw[hK];unfold rps at h ⊢;split;rename_i e;rw[aXg e] at h;cases hr:rp i s y with
  |none=>rw[hr] at h;cases h
  |some u=>rw[hr] at h;exact Xn h
  rename_i e;rw[aXf e] at h;exact Xn h
def RPs (C:bT) (S:Nat->aT) (M:cN):Prop:=∀i:Nat,(i:Int)<C.aE->rps i (S i) M.jW=some (M.aC i)
variable {S:Nat->aT}
theorem RPs.out (h:RPs C S M) (p:vW C d M M'):RPs C S M':=by
 have rG:∀{i:Nat} {s:aT} {v:Ev},M'.aC=bJ M.aC i s->M'.jW=M.jW++[v]->v.core=i->rp i (M.aC i) v=some s->RPs C S M':=by
  intro i s v a b f k j o;rw[a,b,Xn<|h j o];unfold bJ;by_cases e:j=i;subst e;rw[aXg f,aXg rfl];exact k;grind
 cases p with
 |wS a b l=>intro i c;rw[a,b];exact h i c
 |ev i s v c m q a b f k l=>exact rG a b f k
 |vQ i g c m q a b w l=>intro i c;rw[a,b];exact h i c
 |vC i g s v c m t a b f u r k l=>exact rG a b f k
structure Sl (C:bT) (S:Nat->aT) (N:Nat) (M:cN):Prop where
 inv:eO C N M
 mX:aGr M
 rps:RPs C S M
def Sl.sJ (hC:C.Ok) (h:Sl C S N M):Sl C S (N+2) (M.sJ C d).1:=by
 have a:=U6 (d:=d) hC h.inv h.mX;exact⟨aE9 h.inv hC,h.mX.out hC h.inv a,h.rps.out a⟩
def Sl.len (h:Sl C S N M):M.jW.length<=N:=h.inv.jW
def aGe:(M.yC C [d] 0).1=(M.sJ C d).1:=by
 unfold cN.yC;split;rfl;rfl
end Go.Mc
namespace Go.Proofs
open Go.Shelf
def Tryz.Lo:Go.Shelf.Ren:=⟨fun|138=>51|195=>94|218=>95|143=>96|219=>147|217=>223|225=>224|224=>225|267=>226|266=>286|314=>287|n=>n,fun|9=>9|3=>3|4=>4|5=>5|0=>0|46=>322|146=>440|51=>378|n=>n,fun|1=>2|n=>n⟩
def Tryz.td:Go.Proofs.Lays.n138 Tryz.prog Tryz.Lo:={
 mixed:=EU
 f138:=Tryz.func51.trans<|eb some EU
 f143:=Tryz.func96.trans<|eb some EU
 f195:=Tryz.func94.trans<|eb some EU
 f217:=Tryz.func223.trans<|eb some EU
 f218:=Tryz.func95.trans<|eb some EU
 f219:=Tryz.func147.trans<|eb some EU
 f224:=Tryz.func225.trans<|eb some EU
 f225:=Tryz.func224.trans<|eb some EU
 f266:=Tryz.func286.trans<|eb some EU
 f267:=Tryz.func226.trans<|eb some EU
 f314:=Tryz.func287.trans<|eb some EU
 t0:=Tryz.underlying0
 a0:=Tryz.isAgg0
 z0:=Tryz.sizeOf0
 v0:=Tryz.zeroValue0
 t3:=Tryz.underlying3
 a3:=Tryz.isAgg3
 z3:=Tryz.sizeOf3
 v3:=Tryz.zeroValue3
 t4:=Tryz.underlying4
 a4:=Tryz.isAgg4
 z4:=Tryz.sizeOf4
 v4:=Tryz.zeroValue4
 t5:=Tryz.underlying5
 a5:=Tryz.isAgg5
 z5:=Tryz.sizeOf5
 v5:=Tryz.zeroValue5
 t9:=Tryz.underlying9
 a9:=Tryz.isAgg9
 z9:=Tryz.sizeOf9
 v9:=Tryz.zeroValue9
 t46:=Tryz.underlying322
 a46:=Tryz.isAgg322
 z46:=Tryz.sizeOf322
 v46:=Tryz.zeroValue322
 t51:=Tryz.underlying378
 a51:=Tryz.isAgg378
 z51:=Tryz.sizeOf378
 v51:=Tryz.zeroValue378
 t146:=Tryz.underlying440
 a146:=Tryz.isAgg440
 z146:=Tryz.sizeOf440
 v146:=Tryz.zeroValue440
 g1:=by kernel_rfl}
def Tryz.ep:Go.Shelf.Ren:=⟨fun|244=>149|247=>228|287=>289|321=>330|322=>331|n=>n,fun|9=>9|3=>3|75=>266|4=>4|5=>5|167=>383|37=>384|0=>0|85=>385|2=>2|53=>380|175=>444|46=>322|21=>21|80=>502|n=>n,fun|n=>n⟩
def Tryz.aL5:Go.Proofs.Lays.n244 Tryz.prog Tryz.ep:={
 mixed:=EU
 f244:=Tryz.func149.trans<|eb some EU
 f247:=Tryz.func228.trans<|eb some EU
 f287:=Tryz.func289.trans<|eb some EU
 f321:=Tryz.func330.trans<|eb some EU
 f322:=Tryz.func331.trans<|eb some EU
 t0:=Tryz.underlying0
 a0:=Tryz.isAgg0
 z0:=Tryz.sizeOf0
 v0:=Tryz.zeroValue0
 t2:=Tryz.underlying2
 a2:=Tryz.isAgg2
 z2:=Tryz.sizeOf2
 v2:=Tryz.zeroValue2
 t3:=Tryz.underlying3
 a3:=Tryz.isAgg3
 z3:=Tryz.sizeOf3
 v3:=Tryz.zeroValue3
 t4:=Tryz.underlying4
 a4:=Tryz.isAgg4
 z4:=Tryz.sizeOf4
 v4:=Tryz.zeroValue4
 t5:=Tryz.underlying5
 a5:=Tryz.isAgg5
 z5:=Tryz.sizeOf5
 v5:=Tryz.zeroValue5
 t9:=Tryz.underlying9
 a9:=Tryz.isAgg9
 z9:=Tryz.sizeOf9
 v9:=Tryz.zeroValue9
 t21:=Tryz.underlying21
 a21:=Tryz.isAgg21
 z21:=Tryz.sizeOf21
 v21:=Tryz.zeroValue21
 t37:=Tryz.underlying384
 a37:=Tryz.isAgg384
 z37:=Tryz.sizeOf384
 v37:=Tryz.zeroValue384
 t46:=Tryz.underlying322
 a46:=Tryz.isAgg322
 z46:=Tryz.sizeOf322
 v46:=Tryz.zeroValue322
 t53:=Tryz.underlying380
 a53:=Tryz.isAgg380
 z53:=Tryz.sizeOf380
 v53:=Tryz.zeroValue380
 t75:=Tryz.underlying266
 a75:=Tryz.isAgg266
 z75:=Tryz.sizeOf266
 v75:=Tryz.zeroValue266
 t85:=Tryz.underlying385
 a85:=Tryz.isAgg385
 z85:=Tryz.sizeOf385
 v85:=Tryz.zeroValue385
 t167:=Tryz.underlying383
 a167:=Tryz.isAgg383
 z167:=Tryz.sizeOf383
 v167:=Tryz.zeroValue383
 t175:=Tryz.underlying444
 a175:=Tryz.isAgg444
 z175:=Tryz.sizeOf444
 v175:=Tryz.zeroValue444}
end Go.Proofs
