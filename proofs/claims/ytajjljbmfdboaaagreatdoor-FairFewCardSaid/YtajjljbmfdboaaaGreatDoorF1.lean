/- A part of the proof. -/
import Derived.WalkKit
import Derived.AtR
import Derived.ChangeKeysEq
section
namespace Go.Ab
noncomputable section
def top:Value:= .chan none
def wF:Value→Bool
 |.chan _=>true
 |_=>false
def eF:Value→Bool
 |.agg _|.tuple _|.chan _=>false
 |_=>true
mutual
def dG:Value→Bool
 |.bool _|.int _ _|.string _|.pointer none|.slice none _ _|.map none|.nilFunc|.nilIface=>true
 |.iface _ v=>dG v
 |.agg cs=>sU cs
 |.tuple cs=>sU cs
 |_=>false
def sU:Array Value→Bool
 |⟨l⟩=>jS l
def jS:List Value→Bool
 |[]=>true
 |v::l=>dG v&&jS l
end
abbrev gQ:=Nat→Option (Nat×(Nat×Nat))
def Cm (ρ:gQ):Fn→Fn→Prop
 |.yield l,g=>∃b s,ρ l=some (b,s)∧g= .yield b
 |f,g=>g=f
mutual
def aD (ρ:gQ):Value→Value→Prop
 |.bool b,v'=>v'= .bool b
 |.int k n,v'=>v'= .int k n
 |.float k n,v'=>v'= .float k n
 |.complex k n m,v'=>v'= .complex k n m
 |.string s,v'=>v'= .string s
 |.pointer none,v'=>v'= .pointer none
 |.pointer (some a),v'=>∃b s,ρ a.block=some (b,s)∧v'= .pointer (some ⟨b,a.off+s.2,a.spot⟩)
 |.slice none l c,v'=>v'= .slice none l c
 |.slice (some ⟨i,o,some x⟩) l c,v'=>l=0∧c=0∧∃a' c',(x=1→c'=0)∧(x=2→∃b s,ρ i=some (b,s)∧c'≤s.1∧(0<c'→a'=⟨b,o+s.2,none⟩))∧v'= .slice (some a') 0 c'
 |.slice (some ⟨i,o,none⟩) l c,v'=>∃b s c',ρ i=some (b,s)∧c≤c'∧c'≤c+s.1∧v'= .slice (some ⟨b,o+s.2,none⟩) l c'
 |.map none,v'=>v'= .map none
 |.map (some r),v'=>∃b s,ρ r=some (b,s)∧v'= .map (some b)
 |.chan none,_=>True
 |.chan (some _),_=>False
 |.func fn fs cs,v'=>∃fn' fs' cs',Cm ρ fn fn'∧kN ρ fs fs'∧kN ρ cs cs'∧v'= .func fn' fs' cs'
 |.nilFunc,v'=>v'= .nilFunc
 |.iface t v,v'=>∃u,aD ρ v u∧v'= .iface t u
 |.nilIface,v'=>v'= .nilIface
 |.agg cs,v'=>∃cs',kN ρ cs cs'∧v'= .agg cs'
 |.tuple cs,v'=>∃cs',kN ρ cs cs'∧v'= .tuple cs'
def kN (ρ:gQ):Array Value→Array Value→Prop
 |⟨l⟩,a=>aT ρ l a.toList
def aT (ρ:gQ):List Value→List Value→Prop
 |[],l'=>l'=[]
 |v::l,l'=>∃v' t',aD ρ v v'∧aT ρ l t'∧l'=v'::t'
end
inductive lG where
 |cells (c:List Value) (elem:TypeId) (fz:Nat×Nat) (exact:Bool)
 |loop (st:LoopState) (pending:Option Code) (fn:FuncId) (tmps:List Value) (params:Array Tmp) (assign body:Code) (defers:Nat)
 |marks (here:Bool)
 |map (es:List (Value×Value×Nat)) (clock:Nat)
 |mapIter (m:Option Nat) (since:Nat) (seen:List Nat) (last:Nat)
 |X2 (s:ByteArray) (pos:Nat)
inductive Tr (α:Type) where
 |lf
 |nd (v:α) (l r:Tr α)
noncomputable def Tr.get {α:Type} (d:α) (t:Tr α):Nat→α:=
 Tr.rec (motive:=fun _=>Nat→α) (fun _=>d) (fun v _ _ gl gr n=>Nat.rec (motive:=fun _=>α) v (fun m _=>Nat.rec (motive:=fun _=>α) (gl (Nat.div m 2)) (fun _ _=>gr (Nat.div m 2)) (Nat.mod m 2)) n) t
noncomputable def Tr.path {α:Type} (d:α) (f:Nat):Nat→α→Tr α:=
 Nat.rec (motive:=fun _=>Nat→α→Tr α) (fun _ _=> .lf) (fun _ ih n o=>Nat.rec (motive:=fun _=>Tr α) (.nd o .lf .lf) (fun m _=>Nat.rec (motive:=fun _=>Tr α) (.nd d (ih (Nat.div m 2) o) .lf) (fun _ _=> .nd d .lf (ih (Nat.div m 2) o)) (Nat.mod m 2)) n) f
noncomputable def Tr.set {α:Type} (d:α) (t:Tr α):Nat→α→Tr α:=
 Tr.rec (motive:=fun _=>Nat→α→Tr α) (fun n o=>Tr.path d (n+1) n o)
  (fun v l r sl sr n o=>Nat.rec (motive:=fun _=>Tr α) (.nd o l r) (fun m _=>Nat.rec (motive:=fun _=>Tr α) (.nd v (sl (Nat.div m 2) o) r) (fun _ _=> .nd v l (sr (Nat.div m 2) o)) (Nat.mod m 2)) n) t
theorem M6 {β:Type} (n:Nat) (a b:β):Nat.rec (motive:=fun _=>β) a (fun _ _=>b) (Nat.mod n 2)=if n % 2=0 then a else b:=by
 show Nat.rec (motive:=fun _=>β) a (fun _ _=>b) (n % 2)=_
 cases n % 2<;>rfl
theorem Tr.G8 {α:Type} (d:α) (n:Nat):(Tr.lf:Tr α).get d n=d:=rfl
theorem Tr.Lh {α:Type} (d v:α) (l r:Tr α):(Tr.nd v l r).get d 0=v:=rfl
theorem Tr.Ff {α:Type} (d v:α) (l r:Tr α) (n:Nat):(Tr.nd v l r).get d (n+1)=if n % 2=0 then l.get d (n/2) else r.get d (n/2):=M6 _ _ _
theorem Tr.aB7 {α:Type} (d:α) (f:Nat) (o:α):Tr.path d (f+1) 0 o= .nd o .lf .lf:=rfl
theorem Tr.zq {α:Type} (d:α) (f n:Nat) (o:α):Tr.path d (f+1) (n+1) o=if n % 2=0 then .nd d (Tr.path d f (n/2) o) .lf else .nd d .lf (Tr.path d f (n/2) o):=M6 _ _ _
theorem Tr.aAk {α:Type} (d:α) (n:Nat) (o:α):(Tr.lf:Tr α).set d n o=Tr.path d (n+1) n o:=rfl
theorem Tr.aCr {α:Type} (d v:α) (l r:Tr α) (o:α):(Tr.nd v l r).set d 0 o= .nd o l r:=rfl
theorem Tr.aEl {α:Type} (d v:α) (l r:Tr α) (n:Nat) (o:α):(Tr.nd v l r).set d (n+1) o=if n % 2=0 then .nd v (l.set d (n/2) o) r else .nd v l (r.set d (n/2) o):=M6 _ _ _
theorem Tr.S5 {α:Type} (d:α):∀(f n m:Nat) (o:α),n<f→(Tr.path d f n o).get d m=if m=n then o else d
 |0,n,_,_,h=>absurd h (Nat.not_lt_zero n)
 |f+1,0,m,o,_=>by
  rw[Tr.aB7]
  cases m with
  |zero=>simp[Tr.Lh]
  |succ m=>simp[Tr.Ff,Tr.G8]
 |f+1,n+1,m,o,h=>by
  have ih:=fun m=>Tr.S5 d f (n/2) m o (by omega)
  rw[Tr.zq]
  by_cases hn:n % 2=0
  ·rw[if_pos hn]
   cases m with
   |zero=>simp[Tr.Lh]
   |succ m=>
    rw[Tr.Ff]
    by_cases hm:m % 2=0
    ·grind
    ·rw[if_neg hm,Tr.G8];grind
  ·rw[if_neg hn]
   cases m with
   |zero=>simp[Tr.Lh]
   |succ m=>
    rw[Tr.Ff]
    by_cases hm:m % 2=0
    ·rw[if_pos hm,Tr.G8];grind
    grind
theorem Tr.gY {α:Type} (d:α):∀(t:Tr α) (n m:Nat) (o:α),(t.set d n o).get d m=if m=n then o else t.get d m
 |.lf,n,m,o=>by rw[Tr.G8,Tr.aAk];exact Tr.S5 d (n+1) n m o (Nat.lt_succ_self _)
 |.nd v l r,0,m,o=>by
  rw[Tr.aCr]
  cases m with
  |zero=>simp[Tr.Lh]
  |succ m=>simp[Tr.Ff]
 |.nd v l r,n+1,m,o=>by
  rw[Tr.aEl]
  by_cases hn:n % 2=0
  ·rw[if_pos hn]
   cases m with
   |zero=>simp[Tr.Lh]
   |succ m=>
    rw[Tr.Ff,Tr.Ff]
    by_cases hm:m % 2=0
    ·rw[if_pos hm,if_pos hm,Tr.gY d l]
     grind
    grind
  ·rw[if_neg hn]
   cases m with
   |zero=>simp[Tr.Lh]
   |succ m=>
    rw[Tr.Ff,Tr.Ff]
    by_cases hm:m % 2=0
    ·grind
    ·rw[if_neg hm,if_neg hm,Tr.gY d r]
     grind
structure AH where
 base:Nat
 next:Nat
 old:Nat→Option lG
 new:Tr (Option lG)
def AH.get (h:AH) (i:Nat):Option lG:=AH.rec (motive:=fun _=>Option lG) (fun base _ old new=>Bool.rec (motive:=fun _=>Option lG) (new.get none (Nat.sub i base)) (old i) (Nat.blt i base)) h
def AH.set (h:AH) (i:Nat) (o:Option lG):AH:=AH.rec (motive:=fun _=>AH) (fun base next old new=>Bool.rec (motive:=fun _=>AH) ⟨base,next,old,new.set none (Nat.sub i base) o⟩ ⟨base,next,old,new⟩ (Nat.blt i base)) h
def AH.alloc (h:AH) (o:lG):AH:=AH.rec (motive:=fun _=>AH) (fun base next old new=>⟨base,Nat.succ next,old,new.set none (Nat.sub next base) (some o)⟩) h
theorem AH.get_eq (h:AH) (i:Nat):h.get i=if i<h.base then h.old i else h.new.get none (i - h.base):=by
 obtain⟨base,next,old,new⟩:=h
 simp only[AH.get]
 cases hb:Nat.blt i base with
 |true=>simp_all
 |false=>rw[if_neg (by rw[←Nat.blt_eq,hb];simp)];rfl
theorem AH.Es (h:AH) (i:Nat) (o:Option lG):h.set i o=if i<h.base then h else {h with new:=h.new.set none (i - h.base) o}:=by
 obtain⟨base,next,old,new⟩:=h
 simp only[AH.set]
 cases hb:Nat.blt i base with
 |true=>simp_all
 |false=>rw[if_neg (by rw[←Nat.blt_eq,hb];simp)];rfl
theorem AH.alloc_eq (h:AH) (o:lG):h.alloc o={h with new:=h.new.set none (h.next - h.base) (some o),next:=h.next+1}:=rfl
theorem AH.gY {h:AH} {i j:Nat} {o:Option lG} (hi:h.base≤i):(h.set i o).get j=if j=i then o else h.get j:=by
 rw[AH.Es,if_neg (Nat.not_lt.2 hi),AH.get_eq,AH.get_eq]
 by_cases hj:j<h.base
 ·grind
 ·simp only[hj,if_false,Tr.gY]
  grind
@[simp] theorem AH.Sw {h:AH} {i:Nat} {o:Option lG}:(h.set i o).base=h.base:=by rw[AH.Es];split<;>rfl
@[simp] theorem AH.jd {h:AH} {i:Nat} {o:Option lG}:(h.set i o).next=h.next:=by rw[AH.Es];split<;>rfl
@[simp] theorem AH.aB9 {h:AH} {o:lG}:(h.alloc o).base=h.base:=rfl
@[simp] theorem AH.aBy {h:AH} {o:lG}:(h.alloc o).next=h.next+1:=rfl
theorem AH.tO {h:AH} {j:Nat} {o:lG} (hb:h.base≤h.next):(h.alloc o).get j=if j=h.next then some o else h.get j:=by
 rw[AH.alloc_eq,AH.get_eq,AH.get_eq]
 by_cases hj:j<h.base
 ·grind
 ·simp only[hj,if_false,Tr.gY]
  grind
def bY (c:List Value) (off:Nat) (xs:List Value):List Value:=c.take off++xs++c.drop (off+xs.length)
end
end Go.Ab
end
section
namespace Go.Ab
noncomputable section
def iG (P:Program) (t:TypeId):Option Bool:=
 (P.underlying t).map fun|.struct _|.array _ _=>true|_=>false
def zeroOf (P:Program) (t:TypeId):Option (List Value):=
 ((P.info? t).bind (·.zero)).bind fun z=>
  if dG z&&z.cells.toList.all eF&&z.cells.size==P.cellsOf t then some z.cells.toList else none
def bytesOf (P:Program) (t:TypeId):Nat:=P.bytesOf t
def cI (h:AH) (a:Addr) (n:Nat):Option (List Value):=
 if a.spot.isSome then none else
 match h.get a.block with
 |some (.cells c _ _ _)=>if a.off+n≤c.length then some ((c.drop a.off).take n) else none
 |_=>none
def rB (P:Program) (h:AH) (t:TypeId) (a:Addr):Option Value:=
 match iG P t with
 |some true=>(cI h a (P.cellsOf t)).map fun l=> .agg ⟨l⟩
 |some false=>
  if a.spot.isSome then none else
  match h.get a.block with
  |some (.cells c _ _ _)=>c[a.off]?
  |_=>none
 |none=>none
def dV (h:AH) (a:Addr) (vs:List Value):Option AH:=
 if a.spot.isSome||a.block<h.base|| !vs.all eF then none else
 match h.get a.block with
 |some (.cells c e fz x)=>if fz.2=0∧a.off+vs.length≤c.length then some (h.set a.block (some (.cells (bY c a.off vs) e fz x))) else none
 |_=>none
def iB (v:Value):Option (List Value):=if wF v then none else some v.cells.toList
def Js (P:Program) (h:AH) (t:TypeId) (a:Addr) (v:Value):Option AH:=
 match iB v with
 |some vs=>if vs.length=P.cellsOf t∧(P.info? t).isSome then dV h a vs else none
 |none=>none
def apart (P:Program) (t:TypeId) (cs:List Value) (off:Nat):Option Value:=
 match iG P t with
 |some true=>if off+P.cellsOf t≤cs.length then some (.agg ⟨(cs.drop off).take (P.cellsOf t)⟩) else none
 |some false=>cs[off]?
 |none=>none
def Bp (place:Nat→Option (Nat×Nat)) (cells:List Value):List (Nat×Value)→Option (List Value)
 |[]=>some cells
 |(i,v)::rest=>
  match place i,iB v with
  |some (off,size),some vs=>if vs.length=size∧off+vs.length≤cells.length then Bp place (bY cells off vs) rest else none
  |_,_=>none
def D3 (P:Program) (t:TypeId) (parts:List (Nat×Value)):Option Value:=
 match zeroOf P t,P.underlying t with
 |some z,some (.struct fs)=>
  if fs.all (fun f=>(P.info? f.type).isSome) then(Bp (fun i=>(fs[i]?).map fun f=>(f.offset,P.cellsOf f.type)) z parts).map fun l=> .agg ⟨l⟩ else none
 |some z,some (.array _ e)=>
  if(P.info? e).isSome then(Bp (fun i=>some (i*P.cellsOf e,P.cellsOf e)) z parts).map fun l=> .agg ⟨l⟩ else none
 |_,_=>none
def eB (z:List Value) (n:Nat):List Value:=(List.replicate n z).flatten
def jZ (v:Option Value) (dflt:Nat) (most:Nat):Option Nat:=
 match v with
 |none=>some dflt
 |some (.int _ i)=>if 0≤i∧i≤most then some i.toNat else none
 |some _=>none
def yC (a:Addr):Value:= .slice (some ⟨a.block,a.off,some 2⟩) 0 0
def rD:Value:= .slice (some ⟨0,0,some 1⟩) 0 0
def aBk:Value:= .slice (some ⟨0,0,some 0⟩) 0 0
def oT (h:AH) (i:Nat):Option Bool:=match h.get i with|some (.cells _ _ _ x)=>some x|_=>none
def rH (P:Program) (h:AH) (t:TypeId) (x:Value) (lo hi mx:Option Value):Option Value:=
 match P.underlying t,x with
 |some (.array n e),.pointer (some a)=>
  match jZ mx n n with
  |some m=>match(if hi.isNone&&mx.isSome then none else jZ hi n m) with
   |some hh=>match jZ lo 0 hh with
    |some l=>if(P.info? e).isSome∧a.spot=none then some (.slice (some (if m=l then a else a.add (l*P.cellsOf e))) (hh - l) (m - l)) else none
    |none=>none
   |none=>none
  |none=>none
 |some .string,.string s=>
  if mx.isSome then none else
  match jZ hi s.size s.size with
  |some hh=>match jZ lo 0 hh with
   |some l=>some (.string (s.extract l hh))
   |none=>none
  |none=>none
 |some (.slice e),.slice none len cap=>
  match jZ mx cap cap with
  |some m=>match(if hi.isNone&&mx.isSome then none else jZ hi len m) with
   |some hh=>match jZ lo 0 hh with
    |some l=>if(P.info? e).isSome then some (.slice none (hh - l) (m - l)) else none
    |none=>none
   |none=>none
  |none=>none
 |some (.slice e),.slice (some a) len cap=>
  match jZ mx cap cap with
  |some m=>match(if hi.isNone&&mx.isSome then none else jZ hi len m) with
   |some hh=>match jZ lo 0 hh with
    |some l=>
     if a.spot.isSome then(if(P.info? e).isSome∧len=0∧cap=0 then some (if mx.isSome then rD else aBk) else none) else
     if(P.info? e).isSome∧hh≤m then
      (if m=l then
       if mx.isSome then some rD else
       match oT h a.block with
       |some true=>some rD
       |some false=>some (yC (a.add (l*P.cellsOf e)))
       |none=>none
      else some (.slice (some (a.add (l*P.cellsOf e))) (hh - l) (m - l)))
     else none
    |none=>none
   |none=>none
  |none=>none
 |_,_=>none
def kS (P:Program) (eq:TypeId→Value→Value→Option Bool) (xs ys:List Value):List Field→Option Bool
 |[]=>some true
 |f::fs=>
  if f.name="_" then kS P eq xs ys fs else
  match apart P f.type xs f.offset,apart P f.type ys f.offset with
  |some x,some y=>match eq f.type x y with
   |some true=>kS P eq xs ys fs
   |some false=>some false
   |none=>none
  |_,_=>none
def pC (P:Program) (eq:TypeId→Value→Value→Option Bool) (e:TypeId) (xs ys:List Value):List Nat→Option Bool
 |[]=>some true
 |i::is=>
  match apart P e xs (i*P.cellsOf e),apart P e ys (i*P.cellsOf e) with
  |some x,some y=>match eq e x y with
   |some true=>pC P eq e xs ys is
   |some false=>some false
   |none=>none
  |_,_=>none
def wX (P:Program):Nat→TypeId→Value→Value→Option Bool
 |0,_,_,_=>none
 |d+1,t,x,y=>
  match P.underlying t,x,y with
  |some .bool,.bool a,.bool b=>some (a==b)
  |some (.int _),.int k a,.int k' b=>if k=k' then some (a==b) else none
  |some .string,.string a,.string b=>some (a==b)
  |some (.pointer _),.pointer none,.pointer b=>some b.isNone
  |some (.pointer _),.pointer (some _),.pointer none=>some false
  |some (.interface _),.nilIface,.nilIface=>some true
  |some (.interface _),.nilIface,.iface _ _=>some false
  |some (.interface _),.iface _ _,.nilIface=>some false
  |some (.struct fs),.agg xs,.agg ys=>if P.stoodInHeld t then none else kS P (wX P d) xs.toList ys.toList fs.toList
  |some (.array n e),.agg xs,.agg ys=>if(P.info? e).isSome then pC P (wX P d) e xs.toList ys.toList (List.range n) else none
  |some (.slice _),.slice none _ _,.slice b _ _=>some b.isNone
  |some (.slice _),.slice (some _) _ _,.slice none _ _=>some false
  |some (.map _ _),.map none,.map b=>some b.isNone
  |some (.map _ _),.map (some _),.map none=>some false
  |some (.func _ _ _),.nilFunc,.nilFunc=>some true
  |some (.func _ _ _),.nilFunc,.func _ _ _=>some false
  |some (.func _ _ _),.func _ _ _,.nilFunc=>some false
  |_,_,_=>none
def isConst:Operand→Bool
 |.const _=>true
 |_=>false
def Fa (P:Program) (t:TypeId) (x y:Operand) (a b:Value):Bool:=
 match a,b with
 |.nilIface,.nilIface=>isConst x||isConst y
 |.agg _,.agg _=> !P.eqGuardType P.depth t
 |_,_=>true
def aEj (op:BinOp) (x y:Int):Option Bool:=
 match op with
 |.eql=>some (x==y)
 |.neq=>some (x !=y)
 |.lss=>some (decide (x<y))
 |.leq=>some (decide (x≤y))
 |.gtr=>some (decide (x>y))
 |.geq=>some (decide (x≥y))
 |_=>none
def Je (op:BinOp) (k:IntKind) (x y:Int):Option Value:=
 if y<0 then none else
 match op with
 |.shl=>some (.int k (k.wrap (x*2^(min y.toNat k.bits))))
 |.shr=>some (.int k (x.fdiv (2^(min y.toNat k.bits))))
 |_=>none
def Kh (op:BinOp) (k:IntKind) (x y:Int):Option Value:=
 match op with
 |.add=>some (.int k (k.wrap (x+y)))
 |.sub=>some (.int k (k.wrap (x - y)))
 |.mul=>some (.int k (k.wrap (x*y)))
 |.quo=>if y=0 then none else some (.int k (k.wrap (x.tdiv y)))
 |.rem=>if y=0 then none else some (.int k (x.tmod y))
 |.eql|.neq|.lss|.leq|.gtr|.geq=>(aEj op x y).map .bool
 |.shl|.shr=>Je op k x y
 |.and=>some (.int k (k.wrap (BitVec.ofInt k.bits x&&&BitVec.ofInt k.bits y).toNat))
 |.or=>some (.int k (k.wrap (BitVec.ofInt k.bits x|||BitVec.ofInt k.bits y).toNat))
 |.xor=>some (.int k (k.wrap (BitVec.ofInt k.bits x^^^BitVec.ofInt k.bits y).toNat))
 |.andNot=>some (.int k (k.wrap (BitVec.ofInt k.bits x&&&~~~BitVec.ofInt k.bits y).toNat))
def xm (op:BinOp) (x y:ByteArray):Option Value:=
 match op with
 |.add=>if x.size+y.size≤2^62 then some (.string (x++y)) else none
 |.eql=>some (.bool (x.toList==y.toList))
 |.neq=>some (.bool !(x.toList==y.toList))
 |.lss=>some (.bool (Op.bytesLess x.toList y.toList))
 |_=>none
def Nx (P:Program) (op:BinOp) (t:TypeId) (x y:Operand) (a b:Value):Option Value:=
 match a,b with
 |.int k m,.int k' n=>if k=k' then Kh op k m n else Je op k m n
 |.string m,.string n=>xm op m n
 |a,b=>
  match op with
  |.eql=>if Fa P t x y a b then(wX P 10000 t a b).map .bool else none
  |.neq=>if Fa P t x y a b then(wX P 10000 t a b).map fun e=> .bool !e else none
  |_=>none
def dW (P:Program) (ev:Operand→Value):Op→Option (lG×(Nat→Value))
 |.alloc e=>(zeroOf P e).map fun z=>(.cells z e (0,0) true,fun i=> .pointer (some ⟨i,0,none⟩))
 |.box e x=>(iB (ev x)).map fun l=>(.cells l e (0,0) true,fun i=> .pointer (some ⟨i,0,none⟩))
 |.buildSlice t len parts=>
  match P.underlying t with
  |some (.slice e)=>
   match zeroOf P e with
   |some z=>
    if len*P.cellsOf e≤2^24 then
     (Bp (fun i=>some (i*P.cellsOf e,P.cellsOf e)) (eB z len) (parts.toList.map fun p=>(p.1,ev p.2))).map fun l=>
      (.cells l e (0,0) true,fun i=> .slice (some ⟨i,0,none⟩) len len)
    else none
   |none=>none
  |_=>none
 |.makeSlice t l c=>match P.underlying t,ev l,ev c with
  |some (.slice e),.int _ l,.int _ c=>
   match zeroOf P e with
   |some z=>
    if 0≤l∧l≤c∧c≤2^40∧P.bytesOf e*c≤2^47 then
     some (.cells (eB z c.toNat) e (0,0) true,fun i=> .slice (some ⟨i,0,none⟩) l.toNat c.toNat)
    else none
   |none=>none
  |_,_,_=>none
 |.makeMap t r=>match r with
  |none=>some (.map [] 0,fun i=> .map (some i))
  |some x=>match P.underlying t,ev x with
   |some (.map _ _),.int _ _=>some (.map [] 0,fun i=> .map (some i))
   |_,_=>none
 |_=>none
def Ee (P:Program) (t:TypeId):Option TypeId:=
 match P.underlying t with
 |some (.map key elem)=>match P.underlying key with
  |some (.int _)=>some elem
  |_=>none
 |_=>none
def tH (k:IntKind) (n:Int):List (Value×Value×Nat)→Nat→Option (Option (Nat×Value))
 |[],_=>some none
 |(.int j m,v,_)::es,i=>if k=j then(if n=m then some (some (i,v)) else tH k n es (i+1)) else none
 |_::_,_=>none
def zeroV (P:Program) (t:TypeId):Option Value:=((P.info? t).bind (·.zero)).bind fun z=>if dG z then some z else none
def Wi (h:AH):Value→Option (List (Value×Value×Nat))
 |.map none=>some []
 |.map (some r)=>match h.get r with
  |some (.map es _)=>some es
  |_=>none
 |_=>none
def sE (P:Program) (h:AH) (t:TypeId) (x ix:Value) (ok:Bool):Option Value:=
 match Ee P t,Wi h x,ix with
 |some e,some es,.int k n=>match tH k n es 0 with
  |some (some (_,v))=>some (if ok then .tuple ⟨[v,.bool true]⟩ else v)
  |some none=>(zeroV P e).map fun z=>if ok then .tuple ⟨[z,.bool false]⟩ else z
  |none=>none
 |_,_,_=>none
def uy (k:IntKind) (n:Int) (v:Value) (es:List (Value×Value×Nat)) (clock:Nat):Option lG:=
 match tH k n es 0 with
 |some (some (i,_))=>some (.map (es.modify i fun e=>(.int k n,v,e.2.2)) clock)
 |some none=>some (.map (es++[(.int k n,v,clock)]) (clock+1))
 |none=>none
def zO (P:Program) (h:AH) (t:TypeId) (m key v:Value):Option AH:=
 match Ee P t,m,key with
 |some _,.map (some r),.int k n=>if r<h.base then none else match h.get r with
  |some (.map es clock)=>(uy k n v es clock).map fun o=>h.set r (some o)
  |_=>none
 |_,_,_=>none
def B1 (P:Program) (h:AH) (t:TypeId) (m key:Value):Option AH:=
 match Ee P t,m,key with
 |some _,.map none,.int _ _=>some h
 |some _,.map (some r),.int k n=>if r<h.base then none else match h.get r with
  |some (.map es clock)=>match tH k n es 0 with
   |some (some (i,_))=>some (h.set r (some (.map (es.eraseIdx i) clock)))
   |some none=>some (h.set r (some (.map es clock)))
   |none=>none
  |_=>none
 |_,_,_=>none
def byteOf:Value→Option UInt8
 |.int .u8 n=>some (UInt8.ofNat n.toNat)
 |_=>none
def xS:List Value→Option (List UInt8)
 |[]=>some []
 |v::l=>match byteOf v,xS l with
  |some b,some r=>some (b::r)
  |_,_=>none
def strOf (h:AH):Value→Option Value
 |.slice none _ _=>some (.string .empty)
 |.slice (some a) n _=>if n=0 then some (.string .empty) else((cI h a n).bind xS).map fun l=> .string ⟨⟨l⟩⟩
 |_=>none
def bM (P:Program) (ev:Operand→Value) (h:AH):Op→Option Value
 |.move x=>some (ev x)
 |.assign x=>some (ev x)
 |.pick c a b=>match ev c with
  |.bool t=>some (if t then ev a else ev b)
  |_=>none
 |.build t parts=>D3 P t (parts.toList.map fun p=>(p.1,ev p.2))
 |.load t a=>match ev a with
  |.pointer (some a)=>rB P h t a
  |_=>none
 |.nilCheck x=>match ev x with
  |.pointer (some a)=>some (.pointer (some a))
  |.func (.func f) a b=>some (.func (.func f) a b)
  |.func (.yield f) a b=>some (.func (.yield f) a b)
  |_=>none
 |.binOp op t x y _=>Nx P op t x y (ev x) (ev y)
 |.unOp op _ x=>match op,ev x with
  |.neg,.int k n=>some (.int k (k.wrap (0 - n)))
  |.not,.bool b=>some (.bool !b)
  |_,_=>none
 |.convert s d x=>match P.underlying s,P.underlying d,ev x with
  |some _,some (.int k),.int _ n=>some (.int k (k.wrap n))
  |some .string,some .string,.string z=>some (.string z)
  |some (.slice e),some .string,v=>(match P.underlying e with
   |some (.int .u8)=>strOf h v
   |_=>none)
  |_,_,_=>none
 |.makeInterface t x=>match P.underlying t with
  |some (.interface _)=>none
  |some _=>some (.iface t (ev x))
  |none=>none
 |.makeFunc fn first captured=>match fn with
  |.func f=>some (.func (.func f) (first.map ev) (captured.map ev))
  |_=>none
 |.slice t x lo hi mx=>rH P h t (ev x) (lo.map ev) (hi.map ev) (mx.map ev)
 |.fieldAddr s x f=>match P.underlying s,ev x with
  |some (.struct fs),.pointer (some a)=>match fs[f]? with
   |some fd=>if P.cellsOf fd.type=0 then none else some (.pointer (some (a.add fd.offset)))
   |none=>none
  |_,_=>none
 |.field t x f=>match P.underlying t,ev x with
  |some (.struct fs),.agg cs=>match fs[f]? with
   |some fd=>apart P fd.type cs.toList fd.offset
   |none=>none
  |_,_=>none
 |.indexAddr t x i=>match P.underlying t,ev x,ev i with
  |some (.array n e),.pointer (some a),.int _ i=>if 0≤i∧i<n∧(P.info? e).isSome then some (.pointer (some (a.add (i.toNat*P.cellsOf e)))) else none
  |some (.slice e),.slice (some a) n _,.int _ i=>if 0≤i∧i<n∧(P.info? e).isSome∧a.spot=none then some (.pointer (some (a.add (i.toNat*P.cellsOf e)))) else none
  |_,_,_=>none
 |.index t x i=>match P.underlying t,ev x,ev i with
  |some (.array n e),.agg cs,.int _ i=>if 0≤i∧i<n∧(P.info? e).isSome then apart P e cs.toList (i.toNat*P.cellsOf e) else none
  |some .string,.string s,.int _ i=>if 0≤i then(s[i.toNat]?).map fun b=> .int .u8 b.toNat else none
  |_,_,_=>none
 |.extract t i=>match ev t with
  |.tuple vs=>vs.toList[i]?
  |_=>none
 |.lookup t x ix ok=>sE P h t (ev x) (ev ix) ok
 |_=>none
inductive Kind where
 |vX|alloc|store|call|other
 deriving DecidableEq
def kindOf:Op→Kind
 |.move _|.assign _|.pick ..|.build ..|.load ..|.nilCheck _|.binOp ..|.unOp ..|.convert ..|.makeInterface ..|.makeFunc ..|.slice ..|.fieldAddr ..
 |.field ..|.indexAddr ..|.index ..|.extract ..|.lookup ..=> .vX
 |.alloc _|.box ..|.buildSlice ..|.makeSlice ..|.makeMap ..=> .alloc
 |.store ..|.mapUpdate ..=> .store
 |.call _=> .call
 |_=> .other
def fU (h:AH) (size n:Nat):Value→Option (List Value)
 |.slice none _ _=>if n=0 then some [] else none
 |.slice (some a) l _=>if n=0 then some [] else if n≤l then cI h a (n*size) else none
 |.string s=>if n≤s.size then some ((s.extract 0 n).data.toList.map fun b=> .int .u8 b.toNat) else none
 |_=>none
def tA:Value→Option Nat
 |.slice _ n _=>some n
 |.string s=>some s.size
 |_=>none
def F6 (P:Program) (argTypes:Array TypeId):Bool:=
 match(argTypes[1]?).bind P.underlying with
 |some (.slice _)|some .string=>true
 |_=>false
def Gn (P:Program) (h:AH) (argTypes:Array TypeId) (s x:Value):Option (Value×AH):=
 match(argTypes[0]?).bind P.underlying,s,tA x with
 |some (.slice e),.slice base sLen sCap,some n=>
  if !F6 P argTypes then none else
  match zeroOf P e,fU h (P.cellsOf e) n x with
  |some _,some new=>
   if !new.all eF||new.length !=n*P.cellsOf e then none else
   if sLen+n≤sCap then
    match base with
    |none=>if n=0 then some (s,h) else none
    |some a=>if n=0 then some (s,h) else if a.spot.isSome then none else
     (dV h (a.add (sLen*P.cellsOf e)) new).map fun h'=>(.slice base (sLen+n) sCap,h')
   else if(sLen+n)*(P.bytesOf e+1)≤2^46 then
    match base with
    |none=>if sLen=0 then some (.slice (some ⟨h.next,0,none⟩) n n,h.alloc (.cells new e (0,0) false)) else none
    |some a=>
     if a.spot=some 1 then(if sLen=0 then some (.slice (some ⟨h.next,0,none⟩) n n,h.alloc (.cells new e (0,0) false)) else none) else
     if a.spot=some 2 then
      (match h.get a.block with
      |some (.cells c e' fz _)=>
       if e'=e∧h.base≤a.block∧fz=(0,0)∧a.off≤c.length∧sLen=0∧sCap=0 then
        some (.slice (some ⟨h.next,0,none⟩) n n,(h.set a.block none).alloc (.cells new e (0,0) false))
       else none
      |_=>none) else
     match cI h a (sLen*P.cellsOf e),h.get a.block with
     |some old,some (.cells c e' fz x)=>
      if !old.all eF then none else
      if x then some (.slice (some ⟨h.next,0,none⟩) (sLen+n) (sLen+n),h.alloc (.cells (old++new) e (0,0) false))
      else if e'=e∧h.base≤a.block∧fz=(0,0)∧a.off+sCap*P.cellsOf e≤c.length then
       some (.slice (some ⟨h.next,0,none⟩) (sLen+n) (sLen+n),(h.set a.block none).alloc (.cells (old++new) e (0,0) false))
      else none
     |_,_=>none
   else none
  |_,_=>none
 |_,_,_=>none
def eE (P:Program) (h:AH) (b:Builtin) (argTypes:Array TypeId) (args:List Value):Option (Value×AH):=
 match b,args with
 |.len,[x]=>match(argTypes[0]?).bind P.underlying,x with
  |some .string,.string s=>some (.int .i64 s.size,h)
  |some (.array n _),_=>some (.int .i64 n,h)
  |some (.pointer e),_=>match P.underlying e with
   |some (.array n _)=>some (.int .i64 n,h)
   |_=>none
  |some (.slice _),.slice _ n _=>some (.int .i64 n,h)
  |some (.map _ _),x=>(Wi h x).map fun es=>(.int .i64 es.length,h)
  |_,_=>none
 |.append,[s,x]=>Gn P h argTypes s x
 |.copy,[d,x]=>match(argTypes[0]?).bind P.underlying,d,tA x with
  |some (.slice e),.slice base dLen _,some m=>
   if(P.info? e).isNone then none else
   match fU h (P.cellsOf e) (Nat.min m dLen) x with
   |some new=>match base with
    |none=>some (.int .i64 (Nat.min m dLen:Nat),h)
    |some a=>if Nat.min m dLen=0 then some (.int .i64 0,h) else(dV h a new).map fun h'=>(.int .i64 (Nat.min m dLen:Nat),h')
   |none=>none
  |_,_,_=>none
 |.clear,[x]=>match(argTypes[0]?).bind P.underlying,x with
  |some _,.slice none _ _=>some (.tuple #[],h)
  |some (.slice e),.slice (some a) n _=>
   if n=0 then some (.tuple #[],h) else
   match zeroOf P e with
   |some z=>(dV h a (eB z n)).map fun h'=>(.tuple #[],h')
   |none=>none
  |_,_=>none
 |.delete,[m,k]=>match argTypes[0]? with
  |some t=>(B1 P h t m k).map fun h'=>(.tuple #[],h')
  |none=>none
 |.min,[.int k x,.int _ y]=>some (.int k (if y<x then y else x),h)
 |.max,[.int k x,.int _ y]=>some (.int k (if y>x then y else x),h)
 |_,_=>none
end
end Go.Ab
end
section
namespace Go.Ab
open Go.RowKit
def Ext (ρ ρ':gQ):Prop:=∀i x,ρ i=some x→ρ' i=some x
theorem Ext.refl (ρ:gQ):Ext ρ ρ:=fun _ _ h=>h
theorem Ext.trans {a b c:gQ} (h:Ext a b) (k:Ext b c):Ext a c:=fun i x hx=>k i x (h i x hx)
theorem Cm.mono {ρ ρ':gQ} (h:Ext ρ ρ') {f g:Fn} (k:Cm ρ f g):Cm ρ' f g:=by
 cases f<;>simp only[Cm] at k ⊢<;>try exact k
 obtain⟨b,s,hb,hg⟩:=k
 exact⟨b,s,h _ _ hb,hg⟩
mutual
theorem aD.mono {ρ ρ':gQ} (h:Ext ρ ρ'):∀(v v':Value),aD ρ v v'→aD ρ' v v'
 |.bool _,_,k=>by simp only[aD] at k ⊢;exact k
 |.int _ _,_,k=>by simp only[aD] at k ⊢;exact k
 |.float _ _,_,k=>by simp only[aD] at k ⊢;exact k
 |.complex _ _ _,_,k=>by simp only[aD] at k ⊢;exact k
 |.string _,_,k=>by simp only[aD] at k ⊢;exact k
 |.pointer none,_,k=>by simp only[aD] at k ⊢;exact k
 |.pointer (some _),_,k=>by simp only[aD] at k ⊢;obtain⟨b,s,hb,hv⟩:=k;exact⟨b,s,h _ _ hb,hv⟩
 |.slice none _ _,_,k=>by simp only[aD] at k ⊢;exact k
 |.slice (some ⟨_,_,some _⟩) _ _,_,k=>by
  simp only[aD] at k ⊢
  obtain⟨h1,h2,a',c',h3,h4,h5⟩:=k
  exact⟨h1,h2,a',c',h3,fun hx=>let⟨b,s,hb,hv⟩:=h4 hx;⟨b,s,h _ _ hb,hv⟩,h5⟩
 |.slice (some ⟨_,_,none⟩) _ _,_,k=>by simp only[aD] at k ⊢;obtain⟨b,s,c',hb,hv⟩:=k;exact⟨b,s,c',h _ _ hb,hv⟩
 |.map none,_,k=>by simp only[aD] at k ⊢;exact k
 |.map (some _),_,k=>by simp only[aD] at k ⊢;obtain⟨b,s,hb,hv⟩:=k;exact⟨b,s,h _ _ hb,hv⟩
 |.chan none,_,_=>by simp only[aD]
 |.chan (some _),_,k=>by simp only[aD] at k
 |.func _ fs cs,_,k=>by
  simp only[aD] at k ⊢
  obtain⟨fn',fs',cs',h1,h2,h3,hv⟩:=k
  exact⟨fn',fs',cs',h1.mono h,kN.mono h fs fs' h2,kN.mono h cs cs' h3,hv⟩
 |.nilFunc,_,k=>by simp only[aD] at k ⊢;exact k
 |.iface _ v,_,k=>by simp only[aD] at k ⊢;obtain⟨u,hu,hv⟩:=k;exact⟨u,aD.mono h v u hu,hv⟩
 |.nilIface,_,k=>by simp only[aD] at k ⊢;exact k
 |.agg cs,_,k=>by simp only[aD] at k ⊢;obtain⟨cs',hc,hv⟩:=k;exact⟨cs',kN.mono h cs cs' hc,hv⟩
 |.tuple cs,_,k=>by simp only[aD] at k ⊢;obtain⟨cs',hc,hv⟩:=k;exact⟨cs',kN.mono h cs cs' hc,hv⟩
theorem kN.mono {ρ ρ':gQ} (h:Ext ρ ρ'):∀(v v':Array Value),kN ρ v v'→kN ρ' v v'
 |⟨l⟩,a,k=>by simp only[kN] at k ⊢;exact aT.mono h l a.toList k
theorem aT.mono {ρ ρ':gQ} (h:Ext ρ ρ'):∀(l l':List Value),aT ρ l l'→aT ρ' l l'
 |[],_,k=>by simp only[aT] at k ⊢;exact k
 |v::l,_,k=>by
  simp only[aT] at k ⊢
  obtain⟨v',t',h1,h2,h3⟩:=k
  exact⟨v',t',aD.mono h v v' h1,aT.mono h l t' h2,h3⟩
end
mutual
theorem gI {ρ:gQ}:∀(v:Value),dG v=true→aD ρ v v
 |.bool _,_=>by simp only[aD]
 |.int _ _,_=>by simp only[aD]
 |.float _ _,h=>by simp[dG] at h
 |.complex _ _ _,h=>by simp[dG] at h
 |.string _,_=>by simp only[aD]
 |.pointer none,_=>by simp only[aD]
 |.pointer (some _),h=>by simp[dG] at h
 |.slice none _ _,_=>by simp only[aD]
 |.slice (some _) _ _,h=>by simp[dG] at h
 |.map none,_=>by simp only[aD]
 |.map (some _),h=>by simp[dG] at h
 |.chan _,h=>by simp[dG] at h
 |.func _ _ _,h=>by simp[dG] at h
 |.nilFunc,_=>by simp only[aD]
 |.iface _ v,h=>by simp only[aD];simp only[dG] at h;exact⟨v,gI v h,rfl⟩
 |.nilIface,_=>by simp only[aD]
 |.agg cs,h=>by simp only[aD];simp only[dG] at h;exact⟨cs,Jj cs h,rfl⟩
 |.tuple cs,h=>by simp only[aD];simp only[dG] at h;exact⟨cs,Jj cs h,rfl⟩
theorem Jj {ρ:gQ}:∀(v:Array Value),sU v=true→kN ρ v v
 |⟨l⟩,h=>by simp only[sU] at h;simp only[kN];exact oH l h
theorem oH {ρ:gQ}:∀(l:List Value),jS l=true→aT ρ l l
 |[],_=>by simp only[aT]
 |v::l,h=>by
  simp only[jS,Bool.and_eq_true] at h
  simp only[aT]
  exact⟨v,l,gI v h.1,oH l h.2,rfl⟩
end
theorem hZ {ρ:gQ} {a b:Array Value}:kN ρ a b↔aT ρ a.toList b.toList:=by cases a;simp only[kN]
section lists
variable {ρ:gQ}
theorem aT.nil:aT ρ [] []:=by simp only[aT]
theorem aT.cons {v v':Value} {l l':List Value} (h:aD ρ v v') (k:aT ρ l l'):aT ρ (v::l) (v'::l'):=by
 simp only[aT];grind
theorem aT.Sr {v v':Value} {l l':List Value}:aT ρ (v::l) (v'::l')↔aD ρ v v'∧aT ρ l l':=by
 constructor
 ·intro h
  simp only[aT] at h
  grind
 ·exact fun h=>aT.cons h.1 h.2
theorem aT.length:∀{l l':List Value},aT ρ l l'→l'.length=l.length
 |[],l',h=>by simp only[aT] at h;simp[h]
 |v::l,l',h=>by
  simp only[aT] at h
  obtain⟨v',t',_,h2,rfl⟩:=h
  simp[aT.length h2]
theorem aT.get:∀{l l':List Value} {i:Nat} {v:Value},aT ρ l l'→l[i]?=some v→∃v',l'[i]?=some v'∧aD ρ v v'
 |[],l',i,v,h,k=>by simp at k
 |u::l,l',0,v,h,k=>by
  simp only[aT] at h
  grind
 |u::l,l',i+1,v,h,k=>by
  simp only[aT] at h
  obtain⟨v',t',_,h2,rfl⟩:=h
  simp at k
  simpa using aT.get h2 k
theorem aT.get_none {l l':List Value} {i:Nat} (h:aT ρ l l') (k:l[i]?=none):l'[i]?=none:=by
 rw[List.getElem?_eq_none_iff] at k ⊢
 rw[h.length];exact k
theorem aT.getD {l l':List Value} (i:Nat) (h:aT ρ l l'):aD ρ (l.getD i undef) (l'.getD i undef):=by
 cases k:l[i]? with
 |none=>
  have k':=h.get_none k
  rw[List.getD_eq_getElem?_getD,List.getD_eq_getElem?_getD,k,k']
  exact gI undef (by simp[undef,dG,sU,jS])
 |some v=>
  obtain⟨v',hv,hr⟩:=h.get k
  grind
theorem aT.append:∀{l l' m m':List Value},aT ρ l l'→aT ρ m m'→aT ρ (l++m) (l'++m')
 |[],l',m,m',h,k=>by simp only[aT] at h;subst h;exact k
 |v::l,l',m,m',h,k=>by
  simp only[aT] at h
  obtain⟨v',t',h1,h2,rfl⟩:=h
  exact aT.cons h1 (aT.append h2 k)
theorem aT.take:∀{l l':List Value} (n:Nat),aT ρ l l'→aT ρ (l.take n) (l'.take n)
 |_,_,0,_=>by simp[aT.nil]
 |[],l',n+1,h=>by simp only[aT] at h;subst h;exact aT.nil
 |v::l,l',n+1,h=>by
  simp only[aT] at h
  obtain⟨v',t',h1,h2,rfl⟩:=h
  exact aT.cons h1 (aT.take n h2)
theorem aT.drop:∀{l l':List Value} (n:Nat),aT ρ l l'→aT ρ (l.drop n) (l'.drop n)
 |_,_,0,h=>by simpa using h
 |[],l',n+1,h=>by simp only[aT] at h;subst h;exact aT.nil
 |v::l,l',n+1,h=>by
  simp only[aT] at h
  obtain⟨v',t',h1,h2,rfl⟩:=h
  exact aT.drop n h2
theorem aT.set:∀{l l':List Value} (i:Nat) {v v':Value},aT ρ l l'→aD ρ v v'→aT ρ (l.set i v) (l'.set i v')
 |[],l',i,v,v',h,k=>by simp only[aT] at h;subst h;exact aT.nil
 |u::l,l',0,v,v',h,k=>by
  simp only[aT] at h
  obtain⟨w',t',h1,h2,rfl⟩:=h
  exact aT.cons k h2
 |u::l,l',i+1,v,v',h,k=>by
  simp only[aT] at h
  obtain⟨w',t',h1,h2,rfl⟩:=h
  exact aT.cons h1 (aT.set i h2 k)
theorem aT.bY {l l' m m':List Value} (i:Nat) (h:aT ρ l l') (k:aT ρ m m'):aT ρ (bY l i m) (bY l' i m'):=by
 unfold Ab.bY
 rw[k.length]
 exact((h.take i).append k).append (h.drop _)
theorem aT.replicate {v v':Value} (n:Nat) (h:aD ρ v v'):aT ρ (List.replicate n v) (List.replicate n v'):=by
 induction n with
 |zero=>exact aT.nil
 |succ n ih=>exact aT.cons h ih
theorem aT.Ar {α:Type} {f g:α→Value} (h:∀x,aD ρ (f x) (g x)):∀l:List α,aT ρ (l.map f) (l.map g)
 |[]=>aT.nil
 |x::l=>aT.cons (h x) (aT.Ar h l)
end lists
section Ke
variable {ρ:gQ}
theorem aD.cells {v v':Value} (h:aD ρ v v') (ht:wF v=false):aT ρ v.cells.toList v'.cells.toList:=by
 cases v with
 |agg cs=>simp only[aD] at h;obtain⟨cs',hc,rfl⟩:=h;exact hZ.1 hc
 |chan r=>simp[wF] at ht
 |pointer a=>
  have h0:=h
  cases a with
  |none=>simp only[aD] at h;subst h;exact aT.cons h0 aT.nil
  |some a=>simp only[aD] at h;obtain⟨b,s,hb,rfl⟩:=h;exact aT.cons h0 aT.nil
 |slice a l c=>
  have h0:=h
  cases a with
  |none=>simp only[aD] at h;subst h;exact aT.cons h0 aT.nil
  |some a=>
   obtain⟨i,o,sp⟩:=a
   cases sp with
   |none=>simp only[aD] at h;obtain⟨b,s,c',hb,_,_,rfl⟩:=h;exact aT.cons h0 aT.nil
   |some _=>simp only[aD] at h;obtain⟨_,_,a',c',_,_,rfl⟩:=h;exact aT.cons h0 aT.nil
 |map r=>
  have h0:=h
  cases r with
  |none=>simp only[aD] at h;subst h;exact aT.cons h0 aT.nil
  |some a=>simp only[aD] at h;obtain⟨b,s,hb,rfl⟩:=h;exact aT.cons h0 aT.nil
 |func fn a b=>have h0:=h;simp only[aD] at h;obtain⟨_,_,_,_,_,_,rfl⟩:=h;exact aT.cons h0 aT.nil
 |iface t v=>have h0:=h;simp only[aD] at h;obtain⟨_,_,rfl⟩:=h;exact aT.cons h0 aT.nil
 |tuple t=>have h0:=h;simp only[aD] at h;obtain⟨_,_,rfl⟩:=h;exact aT.cons h0 aT.nil
 |_=>have h0:=h;simp only[aD] at h;subst h;exact aT.cons h0 aT.nil
theorem aD.Oq {v v':Value} (h:aD ρ v v') (hc:eF v=true):v'.oneCell'=true:=by
 cases v with
 |agg cs=>simp[eF] at hc
 |chan r=>simp[eF] at hc
 |tuple t=>simp[eF] at hc
 |pointer a=>cases a with
  |none=>simp only[aD] at h;subst h;rfl
  |some a=>simp only[aD] at h;obtain⟨b,s,hb,rfl⟩:=h;rfl
 |slice a l c=>cases a with
  |none=>simp only[aD] at h;subst h;rfl
  |some a=>
   obtain⟨i,o,sp⟩:=a
   cases sp with
   |none=>simp only[aD] at h;obtain⟨b,s,c',hb,_,_,rfl⟩:=h;rfl
   |some _=>simp only[aD] at h;obtain⟨_,_,a',c',_,_,rfl⟩:=h;rfl
 |map r=>cases r with
  |none=>simp only[aD] at h;subst h;rfl
  |some a=>simp only[aD] at h;obtain⟨b,s,hb,rfl⟩:=h;rfl
 |func fn a b=>simp only[aD] at h;obtain⟨_,_,_,_,_,_,rfl⟩:=h;rfl
 |iface t v=>simp only[aD] at h;obtain⟨_,_,rfl⟩:=h;rfl
 |_=>simp only[aD] at h;subst h;rfl
end Ke
def jG (ρ:gQ):List (Value×Value×Nat)→List MapEntry→Prop
 |[],es=>es=[]
 |(k,v,n)::l,es=>∃k' v' t,aD ρ k k'∧aD ρ v v'∧jG ρ l t∧es={key:=k',val:=v',born:=n}::t
theorem jG.mono {ρ ρ':gQ} (h:Ext ρ ρ'):∀(l:List (Value×Value×Nat)) (es:List MapEntry),jG ρ l es→jG ρ' l es
 |[],_,k=>k
 |(_,_,_)::l,_,⟨k',v',t,h1,h2,h3,h4⟩=>⟨k',v',t,aD.mono h _ _ h1,aD.mono h _ _ h2,jG.mono h l t h3,h4⟩
def rZ (P:Program) (ρ:gQ) (s:Nat×Nat):lG→Obj→Prop
 |.cells c e fz x,o=>∃c':Array Value,o= .cells c' e fz∧aT ρ c ((c'.toList.drop s.2).take c.length)∧s.2+c.length+s.1*P.cellsOf e≤c'.size∧(x=true→s.1=0∧s.2=0)
 |.loop st Bl fn tmps params assign body d,o=>∃tmps' d' s',aT ρ tmps tmps'∧ρ d=some (d',s')∧
   o= .loop {state:=st,pending:=Bl,fn:=fn,tmps:=⟨tmps'⟩,params:=params,assign:=assign,body:=body,defers:=d'}
 |.marks here,o=>o= .deferred (if here then some [] else none)
 |.map es clock,o=>∃es',jG ρ es es'∧o= .map ⟨es'⟩ clock
 |.mapIter m since seen last,o=>∃m',(match m with|none=>m'=none|some r=>∃b s,ρ r=some (b,s)∧m'=some b)∧o= .mapIter m' since ⟨seen⟩ last
 |.X2 s pos,o=>o= .stringIter s pos
theorem rZ.mono {P:Program} {ρ ρ':gQ} (h:Ext ρ ρ') {s:Nat×Nat} {b:lG} {o:Obj} (k:rZ P ρ s b o):rZ P ρ' s b o:=by
 cases b with
 |cells c e fz x=>obtain⟨c',h1,h2,h3⟩:=k;exact⟨c',h1,aT.mono h _ _ h2,h3⟩
 |loop st Bl fn tmps params assign body d=>obtain⟨t',d',s',h1,h2,h3⟩:=k;exact⟨t',d',s',aT.mono h _ _ h1,h _ _ h2,h3⟩
 |marks _=>exact k
 |map es c=>obtain⟨es',h1,h2⟩:=k;exact⟨es',jG.mono h _ _ h1,h2⟩
 |mapIter m _ _ _=>
  obtain⟨m',h1,h2⟩:=k
  refine⟨m',?_,h2⟩
  cases m with
  |none=>exact h1
  |some r=>obtain⟨b,s,hb,hm⟩:=h1;exact⟨b,s,h _ _ hb,hm⟩
 |X2 s p=>exact k
structure Inv (P:Program) (B:Nat) (ρ:gQ) (h:AH) (w:World):Prop where
 pM:∀i o,h.get i=some o→∀b s,ρ i=some (b,s)→∃o',w.heap[b]?=some o'∧rZ P ρ s o o'
 inj:∀i j b si sj,h.base≤i→h.base≤j→(h.get i).isSome→(h.get j).isSome→ρ i=some (b,si)→ρ j=some (b,sj)→i=j
 low:∀i b s,h.base≤i→(h.get i).isSome→ρ i=some (b,s)→B≤b
 old:∀i b s,i<h.base→ρ i=some (b,s)→b<B
 fresh:∀i,h.next≤i→ρ i=none
 gM:∀i,h.next≤i→h.get i=none
 oQ:∀g,g<P.globals.size→ρ g=some (g,(0,0))
 size:B≤w.heap.size
 bn:h.base≤h.next
structure kM (P:Program) (B:Nat) (ρ:gQ) (h:AH) (w:World) (ρ':gQ) (h':AH) (w':World):Prop where
 ext:Ext ρ ρ'
 inv:Inv P B ρ' h' w'
 un:∀i,i<h.next→ρ i=none→ρ' i=none
 lQ:∀i,i<h.next→ρ i=none→h'.get i=h.get i
 stay:∀i,i<h.next→h.get i=none→h'.get i=none
 frame:∀b,b<w.heap.size→(∀i s,h.base≤i→(h.get i).isSome→ρ i≠some (b,s))→w'.heap[b]?=w.heap[b]?
 range:∀i b s,h.base≤i→(h'.get i).isSome→ρ' i=some (b,s)→b<w.heap.size→∃j s',h.base≤j∧(h.get j).isSome∧ρ j=some (b,s')
 base:h'.base=h.base
 tJ:∀i,i<h.base→h'.get i=h.get i
 next:h.next≤h'.next
 size:w.heap.size≤w'.heap.size
 os:w'.os=w.os
 out:w'.output=w.output
 tape:w'.tape=w.tape
theorem kM.refl {P:Program} {B:Nat} {ρ:gQ} {h:AH} {w:World} (hi:Inv P B ρ h w):kM P B ρ h w ρ h w where
 ext:=Ext.refl ρ
 inv:=hi
 un:=fun _ _ h=>h
 lQ:=fun _ _ _=>rfl
 stay:=fun _ _ hn=>hn
 frame:=fun _ _ _=>rfl
 range:=fun i _ s h1 h2 h3 _=>⟨i,s,h1,h2,h3⟩
 base:=rfl
 tJ:=fun _ _=>rfl
 next:=Nat.le_refl _
 size:=Nat.le_refl _
 os:=rfl
 out:=rfl
 tape:=rfl
theorem kM.trans {P:Program} {B:Nat} {ρ ρ1 ρ2:gQ} {h h1 h2:AH} {w w1 w2:World} (a:kM P B ρ h w ρ1 h1 w1) (b:kM P B ρ1 h1 w1 ρ2 h2 w2):kM P B ρ h w ρ2 h2 w2 where
 ext:=a.ext.trans b.ext
 inv:=b.inv
 un:=fun i hi hn=>b.un i (Nat.lt_of_lt_of_le hi a.next) (a.un i hi hn)
 lQ:=fun i hi hn=>(b.lQ i (Nat.lt_of_lt_of_le hi a.next) (a.un i hi hn)).trans (a.lQ i hi hn)
 stay:=fun i hi hn=>b.stay i (Nat.lt_of_lt_of_le hi a.next) (a.stay i hi hn)
 frame:=fun x hx hn=>by
  refine(b.frame x (Nat.lt_of_lt_of_le hx a.size) ?_).trans (a.frame x hx hn)
  intro i s hb hl he
  rw[a.base] at hb
  obtain⟨j,s',hj1,hj2,hj3⟩:=a.range i x s hb hl he hx
  grind
 range:=fun i x s hb hl he hx=>by
  obtain⟨j,s',hj1,hj2,hj3⟩:=b.range i x s (by rw[a.base];exact hb) hl he (Nat.lt_of_lt_of_le hx a.size)
  rw[a.base] at hj1
  exact a.range j x s' hj1 hj2 hj3 hx
 base:=b.base.trans a.base
 tJ:=fun i hi=>(b.tJ i (by rw[a.base];exact hi)).trans (a.tJ i hi)
 next:=Nat.le_trans a.next b.next
 size:=Nat.le_trans a.size b.size
 os:=b.os.trans a.os
 out:=b.out.trans a.out
 tape:=b.tape.trans a.tape
theorem kM.below {P:Program} {B:Nat} {ρ ρ':gQ} {h h':AH} {w w':World} (hi:Inv P B ρ h w) (e:kM P B ρ h w ρ' h' w'):Below B w w':=
 ⟨e.os,e.tape,e.out,e.size,fun k hk=>e.frame k (Nat.lt_of_lt_of_le hk hi.size) fun i s hb hl he=>absurd (hi.low i k s hb hl he) (Nat.not_le.2 hk)⟩
end Go.Ab
end
section
namespace Go.Ab
open Go.RowKit
variable {P:Program} {B:Nat} {ρ:gQ} {h:AH} {w:World}
def sL (ρ:gQ) (i:Nat) (x:Nat×(Nat×Nat)):gQ:=fun j=>if j=i then some x else ρ j
theorem bK {i:Nat} {x:Nat×(Nat×Nat)}:sL ρ i x i=some x:=by simp[sL]
theorem bQ {i j:Nat} {x:Nat×(Nat×Nat)} (h:j≠i):sL ρ i x j=ρ j:=by simp[sL,h]
theorem Ext.sL {i:Nat} {x:Nat×(Nat×Nat)} (h:ρ i=none):Ext ρ (sL ρ i x):=by
 intro j y hy
 by_cases e:j=i
 ·grind
 ·rw[bQ e];exact hy
theorem zR (hi:Inv P B ρ h w) {o:lG} {o':Obj} {s:Nat×Nat} {w':World} (hb:rZ P (sL ρ h.next (w.heap.size,s)) s o o')
  (hheap:w'.heap=w.heap.push o') (hos:w'.os=w.os) (hout:w'.output=w.output) (htape:w'.tape=w.tape):
  kM P B ρ h w (sL ρ h.next (w.heap.size,s)) (h.alloc o) w':=by
 have hext:Ext ρ (sL ρ h.next (w.heap.size,s)):=Ext.sL (hi.fresh _ (Nat.le_refl _))
 have hget:∀j,(h.alloc o).get j=if j=h.next then some o else h.get j:=fun j=>AH.tO hi.bn
 have hlt:∀i b s',ρ i=some (b,s')→i<h.next:=fun i b s' hr=>by
  rcases Nat.lt_or_ge i h.next with h1|h1
  ·exact h1
  ·rw[hi.fresh i h1] at hr;cases hr
 refine {ext:=hext,inv:=?_,un:=?_,lQ:=?_,stay:=fun j hj hn=>by grind,frame:=?_,range:=?_,base:=rfl,tJ:=?_,next:=by simp,size:=by rw[hheap];simp,os:=hos,out:=hout,tape:=htape}
 ·refine {pM:=?_,inj:=?_,low:=?_,old:=?_,fresh:=?_,gM:=?_,oQ:=?_,size:=by rw[hheap];simp;exact Nat.le_succ_of_le hi.size,bn:=Nat.le_succ_of_le hi.bn}
  ·intro i o1 hg b s1 hr
   rw[hget] at hg
   by_cases e:i=h.next
   ·subst e
    rw[if_pos rfl] at hg;cases hg
    rw[bK] at hr;grind
   ·rw[if_neg e] at hg
    rw[bQ e] at hr
    obtain⟨o2,h2,h3⟩:=hi.pM i o1 hg b s1 hr
    refine⟨o2,?_,h3.mono hext⟩
    grind
  ·intro i j b si sj hbi hbj gi gj ri rj
   rw[hget] at gi gj
   by_cases e:i=h.next
   ·by_cases e':j=h.next
    ·rw[e,e']
    ·rw[if_neg e'] at gj
     rw[bQ e'] at rj
     obtain⟨oj,hoj⟩:=Option.isSome_iff_exists.1 gj
     obtain⟨o2,h2,_⟩:=hi.pM j oj hoj b sj rj
     subst e
     rw[bK] at ri;grind
   ·rw[if_neg e] at gi
    rw[bQ e] at ri
    by_cases e':j=h.next
    ·obtain⟨oi,hoi⟩:=Option.isSome_iff_exists.1 gi
     obtain⟨o2,h2,_⟩:=hi.pM i oi hoi b si ri
     subst e'
     rw[bK] at rj;grind
    ·rw[if_neg e'] at gj
     rw[bQ e'] at rj
     exact hi.inj i j b si sj hbi hbj gi gj ri rj
  ·intro i b s1 hbi gi ri
   rw[hget] at gi
   by_cases e:i=h.next
   ·subst e;rw[bK] at ri;cases ri;exact hi.size
   ·rw[if_neg e] at gi;rw[bQ e] at ri
    exact hi.low i b s1 hbi gi ri
  ·intro i b s1 hbi ri
   have e:i≠h.next:=fun e=>by have:=hi.bn;simp at hbi;omega
   rw[bQ e] at ri
   exact hi.old i b s1 hbi ri
  ·intro i hn
   simp at hn
   rw[bQ (by omega)]
   exact hi.fresh i (by omega)
  ·intro i hn
   simp at hn
   rw[hget,if_neg (by omega)]
   exact hi.gM i (by omega)
  ·intro g hg
   have:=hi.oQ g hg
   exact hext _ _ this
 ·intro i hn hr
  rw[bQ (by omega)];exact hr
 ·grind
 ·grind
 ·intro i b s1 hbi gi ri hlt'
  rw[hget] at gi
  by_cases e:i=h.next
  ·subst e;rw[bK] at ri;cases ri;omega
  ·rw[if_neg e] at gi;rw[bQ e] at ri
   grind
 ·intro i hn
  rw[hget,if_neg (by have:=hi.bn;omega)]
theorem vP (hi:Inv P B ρ h w) {i b:Nat} {s:Nat×Nat} {o0 o:lG} {o':Obj} {w':World} (hbi:h.base≤i) (hg:h.get i=some o0) (hr:ρ i=some (b,s)) (hb:rZ P ρ s o o')
  (hheap:w'.heap=w.heap.setIfInBounds b o') (hos:w'.os=w.os) (hout:w'.output=w.output) (htape:w'.tape=w.tape):
  kM P B ρ h w ρ (h.set i (some o)) w':=by
 have hget:∀j,(h.set i (some o)).get j=if j=i then some o else h.get j:=fun j=>AH.gY hbi
 have hsome:∀j,((h.set i (some o)).get j).isSome→(h.get j).isSome:=fun j hj=>by
  grind
 obtain⟨ob,hob,_⟩:=hi.pM i o0 hg b s hr
 have hbl:b<w.heap.size:=(Array.getElem?_eq_some_iff.1 hob).1
 have hin:i<h.next:=by
  rcases Nat.lt_or_ge i h.next with h1|h1
  ·exact h1
  ·rw[hi.gM i h1] at hg;cases hg
 refine {ext:=Ext.refl _,inv:=?_,un:=fun _ _ h=>h,lQ:=?_,stay:=fun j hj hn=>by grind,frame:=?_,range:=?_,base:=AH.Sw,tJ:=?_,next:=by simp,size:=by rw[hheap];simp,os:=hos,out:=hout,tape:=htape}
 ·refine {pM:=?_,inj:=?_,low:=?_,old:=?_,fresh:=?_,gM:=?_,oQ:=hi.oQ,size:=by rw[hheap];simp;exact hi.size,bn:=by simp;exact hi.bn}
  ·intro j oj gj bj sj rj
   rw[hget] at gj
   by_cases e:j=i
   ·grind
   ·rw[if_neg e] at gj
    obtain⟨o2,h2,h3⟩:=hi.pM j oj gj bj sj rj
    refine⟨o2,?_,h3⟩
    have hne:b≠bj:=by
     intro hbb
     subst hbb
     rcases Nat.lt_or_ge j h.base with h4|h4
     ·have:=hi.old j b sj h4 rj
      have:=hi.low i b s hbi (by rw[hg];rfl) hr
      omega
     ·exact e (hi.inj j i b sj s h4 hbi (by rw[gj];rfl) (by rw[hg];rfl) rj hr)
    grind
  ·intro j k bb sj sk hj hk gj gk rj rk
   simp at hj hk
   exact hi.inj j k bb sj sk hj hk (hsome j gj) (hsome k gk) rj rk
  ·intro j bb sj hj gj rj
   simp at hj
   exact hi.low j bb sj hj (hsome j gj) rj
  ·intro j bb sj hj rj
   simp at hj
   exact hi.old j bb sj hj rj
  ·intro j hj
   simp at hj
   exact hi.fresh j hj
  ·intro j hj
   simp at hj
   rw[hget,if_neg (by omega)]
   exact hi.gM j hj
 ·grind
 ·grind
 ·grind
 grind
theorem Ro (hi:Inv P B ρ h w) {i b:Nat} {s s':Nat×Nat} {o0 o:lG} {o':Obj} {w':World} (hbi:h.base≤i) (hg:h.get i=some o0) (hr:ρ i=some (b,s)) (hb:rZ P (sL ρ h.next (b,s')) s' o o')
  (hheap:w'.heap=w.heap.setIfInBounds b o') (hos:w'.os=w.os) (hout:w'.output=w.output) (htape:w'.tape=w.tape):
  kM P B ρ h w (sL ρ h.next (b,s')) ((h.set i none).alloc o) w':=by
 have hext:Ext ρ (sL ρ h.next (b,s')):=Ext.sL (hi.fresh _ (Nat.le_refl _))
 have hget:∀j,((h.set i none).alloc o).get j=if j=h.next then some o else if j=i then none else h.get j:=fun j=>by
  rw[AH.tO (by simp;exact hi.bn),AH.gY hbi];simp
 obtain⟨ob,hob,_⟩:=hi.pM i o0 hg b s hr
 have hbl:b<w.heap.size:=(Array.getElem?_eq_some_iff.1 hob).1
 have hin:i<h.next:=by
  rcases Nat.lt_or_ge i h.next with h1|h1
  ·exact h1
  ·rw[hi.gM i h1] at hg;cases hg
 have hbB:=hi.low i b s hbi (by rw[hg];rfl) hr
 have key:∀j bj sj,j≠h.next→((h.set i none).alloc o).get j≠none→ρ j=some (bj,sj)→(h.get j).isSome∧j≠i∧b≠bj:=by
  intro j bj sj e gj rj
  rw[hget,if_neg e] at gj
  by_cases e':j=i
  ·grind
  ·rw[if_neg e'] at gj
   have hs:(h.get j).isSome:=by cases hh:h.get j with|none=>exact absurd hh gj|some _=>rfl
   refine⟨hs,e',?_⟩
   intro hbb
   subst hbb
   rcases Nat.lt_or_ge j h.base with h4|h4
   ·have:=hi.old j b sj h4 rj
    omega
   ·exact e' (hi.inj j i b sj s h4 hbi hs (by rw[hg];rfl) rj hr)
 refine {ext:=hext,inv:=?_,un:=?_,lQ:=?_,stay:=fun j hj hn=>by grind,frame:=?_,range:=?_,base:=by simp,tJ:=?_,next:=by simp,size:=by rw[hheap];simp,os:=hos,out:=hout,tape:=htape}
 ·refine {pM:=?_,inj:=?_,low:=?_,old:=?_,fresh:=?_,gM:=?_,oQ:=fun g hg'=>hext _ _ (hi.oQ g hg'),size:=by grind,bn:=by simp;grind}
  ·intro j oj gj bj sj rj
   by_cases e:j=h.next
   ·subst e
    rw[hget,if_pos rfl] at gj;cases gj
    rw[bK] at rj;grind
   ·rw[bQ e] at rj
    obtain⟨_,e',hne⟩:=key j bj sj e (by rw[gj];simp) rj
    rw[hget,if_neg e,if_neg e'] at gj
    obtain⟨o2,h2,h3⟩:=hi.pM j oj gj bj sj rj
    exact⟨o2,by grind,h3.mono hext⟩
  ·intro j k bb sj sk hj hk gj gk rj rk
   simp at hj hk
   by_cases e:j=h.next
   ·by_cases e2:k=h.next
    ·rw[e,e2]
    ·rw[bQ e2] at rk
     obtain⟨_,_,hne⟩:=key k bb sk e2 (by grind) rk
     subst e;rw[bK] at rj;grind
   ·rw[bQ e] at rj
    obtain⟨s1,_,hne⟩:=key j bb sj e (by grind) rj
    by_cases e2:k=h.next
    ·subst e2;rw[bK] at rk;grind
    ·rw[bQ e2] at rk
     obtain⟨s2,_,_⟩:=key k bb sk e2 (by grind) rk
     exact hi.inj j k bb sj sk hj hk s1 s2 rj rk
  ·intro j bb sj hj gj rj
   simp at hj
   by_cases e:j=h.next
   ·subst e;rw[bK] at rj;cases rj;exact hbB
   ·rw[bQ e] at rj
    obtain⟨s1,_,_⟩:=key j bb sj e (by grind) rj
    exact hi.low j bb sj hj s1 rj
  ·intro j bb sj hj rj
   simp at hj
   have e:j≠h.next:=by have:=hi.bn;omega
   rw[bQ e] at rj
   exact hi.old j bb sj hj rj
  ·intro j hj
   simp at hj
   rw[bQ (by omega)]
   exact hi.fresh j (by omega)
  ·intro j hj
   simp at hj
   rw[hget,if_neg (by omega),if_neg (by omega)]
   exact hi.gM j (by omega)
 ·intro j hj hn
  rw[bQ (by omega)];exact hn
 ·grind
 ·grind
 ·intro j bb sj hj gj rj _
  by_cases e:j=h.next
  ·subst e;rw[bK] at rj;grind
  ·rw[bQ e] at rj
   grind
 grind
theorem cX (b o n:Nat):Addr.add ⟨b,o,none⟩ n=⟨b,o+n,none⟩:=by
 unfold Addr.add
 grind
theorem tD {b e o:Nat} {c:Array Value} {fz:Nat×Nat} (hb:w.heap[b]?=some (.cells c e fz)):w.cell? ⟨b,o,none⟩=c[o]?:=by
 simp[World.cell?,hb]
theorem oW (hi:Inv P B ρ h w) {a:Addr} {b n:Nat} {s:Nat×Nat} {l:List Value} (hr:ρ a.block=some (b,s)) (hl:cI h a n=some l):
  ∃l',(loadCells ⟨b,a.off+s.2,none⟩ n).run P w= .ok ⟨l'⟩ w∧aT ρ l l'∧a.spot=none∧l.length=n:=by
 unfold cI at hl
 cases hs:a.spot with
 |some x=>simp[hs] at hl
 |none=>
  simp only[hs,Option.isSome_none,Bool.false_eq_true,if_false] at hl
  split at hl
  ·rename_i c e fz x hg
   split at hl
   ·rename_i hle
    cases hl
    obtain⟨o',ho,c',rfl,hc,hsz,_⟩:=hi.pM _ _ hg b s hr
    have hlen:=hc.length
    have hcd:(c'.toList.drop s.2).length=c'.size - s.2:=by simp
    refine⟨(((c'.toList.drop s.2).take c.length).drop a.off).take n,?_,(hc.drop _).take _,rfl,by simp;omega⟩
    have hn:((((c'.toList.drop s.2).take c.length).drop a.off).take n).length=n:=by
     grind
    have:=run_loadCells_list (P:=P) (w:=w) ⟨b,a.off+s.2,none⟩ ((((c'.toList.drop s.2).take c.length).drop a.off).take n) (fun j v hj=>by
     rw[cX,tD ho]
     grind)
    grind
   ·cases hl
  ·cases hl
theorem nF {b e:Nat} {fz:Nat×Nat} (hfz:fz.2=0):∀(vs:List Value) (w:World) (c:Array Value) (off i:Nat),w.heap[b]?=some (.cells c e fz)→(∀v∈vs,v.oneCell'=true)→off+i+vs.length≤c.size→
  ∃w',(storeCells ⟨b,off,none⟩ vs i).run P w= .ok () w'∧w'.heap=w.heap.setIfInBounds b (.cells ⟨bY c.toList (off+i) vs⟩ e fz)∧w'.os=w.os∧w'.output=w.output∧w'.tape=w.tape
 |[],w,c,off,i,hb,_,_=>by
  refine⟨w,by simp[storeCells],?_,rfl,rfl,rfl⟩
  simp only[bY,List.append_nil,List.length_nil,Nat.add_zero,List.take_append_drop]
  obtain⟨hlt,hb'⟩:=Array.getElem?_eq_some_iff.1 hb
  apply Array.ext_getElem?
  intro j
  by_cases e':b=j
  ·subst e';simp[hlt,hb']
  grind
 |v::vs,w,c,off,i,hb,hv,hsz=>by
  simp only[List.length_cons] at hsz
  have h1:w.cell? ⟨b,off+i,none⟩=some c[off+i]:=by rw[tD hb];grind
  have h2:w.frozen? ⟨b,off+i,none⟩=false:=by simp[World.frozen?,hb,hfz]
  have hb2:(w.setCell ⟨b,off+i,none⟩ v).heap[b]?=some (.cells (c.setIfInBounds (off+i) v) e fz):=by
   simp[World.setCell,Array.getElem?_modify,hb]
  obtain⟨w',hr,hh,ho,hu,ht⟩:=nF hfz vs (w.setCell ⟨b,off+i,none⟩ v) (c.setIfInBounds (off+i) v) off (i+1) hb2 (fun u hu=>hv u (List.mem_cons_of_mem _ hu)) (by simp;omega)
  refine⟨w',?_,?_,ho,hu,ht⟩
  ·simp only[storeCells,Sem.run_bind]
   rw[cX,run_store P w _ v _ (hv v List.mem_cons_self)]
   simp_all
  ·rw[hh]
   apply Array.ext_getElem?
   intro j
   by_cases e':b=j
   ·subst e'
    have hlt:=(Array.getElem?_eq_some_iff.1 hb).1
    simp only[World.setCell]
    rw[Array.getElem?_setIfInBounds_self,Array.getElem?_setIfInBounds_self]
    simp only[Array.size_modify,hlt,if_true]
    congr 2
    apply Array.ext'
    simp only[bY,Array.toList_setIfInBounds,List.length_cons]
    rw[show off+(i+1)=off+i+1 by omega,List.take_succ_eq_append_getElem (by simp;omega)]
    simp only[List.getElem_set_self,List.append_assoc,List.nil_append,List.take_set_of_le (Nat.le_refl _),List.cons_append]
    rw[List.drop_set_of_lt (by omega),show off+i+1+vs.length=off+i+(vs.length+1) by omega]
   ·rw[Array.getElem?_setIfInBounds_ne e',Array.getElem?_setIfInBounds_ne e']
    simp[World.setCell,Array.getElem?_modify,e']
theorem yU (hi:Inv P B ρ h w) {a:Addr} {b:Nat} {s:Nat×Nat} {vs vs':List Value} {h':AH} (hr:ρ a.block=some (b,s)) (hl:dV h a vs=some h') (hv:aT ρ vs vs'):
  ∃w',(storeCells ⟨b,a.off+s.2,none⟩ vs').run P w= .ok () w'∧kM P B ρ h w ρ h' w'∧a.spot=none:=by
 unfold dV at hl
 split at hl
 ·cases hl
 rename_i hcond
 simp only[Bool.or_eq_true,not_or,Bool.not_eq_true,decide_eq_false_iff_not,Bool.not_eq_false'] at hcond
 obtain⟨⟨hs,hbase⟩,hall⟩:=hcond
 have hs:a.spot=none:=by cases hh:a.spot with|none=>rfl|some _=>rw[hh] at hs;cases hs
 split at hl
 ·rename_i c e fz x hg
  split at hl
  ·rename_i hle
   cases hl
   obtain⟨o',ho,c',rfl,hc,hsz,hx⟩:=hi.pM _ _ hg b s hr
   have hlen:=hc.length
   have hvl:=hv.length
   have hone:∀v∈vs',v.oneCell'=true:=by
    intro v hv'
    obtain⟨j,hj⟩:=List.getElem?_of_mem hv'
    have hjl:j<vs.length:=by
     grind
    obtain⟨u,hu,hru⟩:=hv.get (List.getElem?_eq_getElem hjl)
    rw[hj] at hu;cases hu
    exact hru.Oq (List.all_eq_true.1 hall _ (List.getElem_mem hjl))
   simp only[List.length_take] at hlen
   obtain⟨w',hrun,hheap,hos,hout,htape⟩:=nF (P:=P) hle.1 vs' w c' (a.off+s.2) 0 ho hone (by simp at hlen ⊢;omega)
   refine⟨w',hrun,vP hi (Nat.not_lt.1 hbase) hg hr (o:= .cells (bY c a.off vs) e fz x) ⟨_,rfl,?_,?_,hx⟩ hheap hos hout htape,hs⟩
   ·have:((bY c'.toList (a.off+s.2+0) vs').drop s.2).take (bY c a.off vs).length=bY ((c'.toList.drop s.2).take c.length) a.off vs':=by
     have hd:(bY c'.toList (a.off+s.2+0) vs').drop s.2=bY (c'.toList.drop s.2) a.off vs':=by
      unfold bY
      simp only[Nat.add_zero]
      rw[List.append_assoc,List.drop_append_of_le_length (by simp;omega),List.drop_take,List.drop_drop,List.append_assoc]
      rw[show a.off+s.2 - s.2=a.off by omega,show s.2+(a.off+vs'.length)=a.off+s.2+vs'.length by omega]
     rw[hd]
     unfold bY
     rw[List.take_append,List.take_append]
     simp only[List.length_append,List.length_take,List.length_drop,List.take_take]
     have e1:min a.off c.length=a.off:=by omega
     have e2:a.off+vs.length+(c.length - (a.off+vs.length))=c.length:=by omega
     rw[e1,e2]
     have e3:min c.length a.off=a.off:=by omega
     have e4:min a.off (c'.toList.length - s.2)=a.off:=by grind
     rw[e3,e4]
     congr 1
     ·congr 1
      rw[List.take_of_length_le (by omega)]
     grind
    show aT ρ _ (((bY c'.toList (a.off+s.2+0) vs').drop s.2).take (bY c a.off vs).length)
    rw[this]
    exact hc.bY _ hv
   ·simp only[bY,List.length_append,List.length_take,List.length_drop] at*
    grind
  ·cases hl
 ·cases hl
end Go.Ab
end
section
namespace Go.Ab
open Go.RowKit
variable {P:Program} {B:Nat} {ρ:gQ} {h:AH} {w:World}
theorem Kl {t:TypeId} (hn:P.cellsOf t≠0):∃i,P.info? t=some i∧i.size=P.cellsOf t:=by
 unfold Program.cellsOf at hn ⊢
 cases hi:P.info? t with
 |none=>simp[hi] at hn
 |some i=>grind
theorem fH {t:TypeId} {i:TypeInfo} (hi:P.info? t=some i):(sizeOf t).run P w= .ok (P.cellsOf t) w:=by
 simp[sizeOf,typeInfo,hi,Program.cellsOf]
theorem Fz {t:TypeId} {d:TypeDesc} (hd:P.underlying t=some d):∃i,P.info? t=some i:=by
 unfold Program.underlying at hd
 grind
theorem F2 {t:TypeId} {b:Bool} (hb:iG P t=some b):(isAgg t).run P w= .ok b w:=by
 unfold iG at hb
 cases hd:P.underlying t with
 |none=>simp[hd] at hb
 |some d=>
  rw[hd] at hb
  simp only[Option.map_some,Option.some.injEq] at hb
  unfold isAgg
  simp only[Sem.run_bind,run_underlying hd,Result.andThen_ok]
  subst hb
  cases d<;>rfl
theorem Q9 {t:TypeId} {b:Bool} (hb:iG P t=some b):∃i,P.info? t=some i:=by
 unfold iG at hb
 cases hd:P.underlying t with
 |none=>simp[hd] at hb
 |some d=>exact Fz hd
theorem rJ {e:TypeId} {z:List Value} (hz:zeroOf P e=some z):
  ∃i zv,P.info? e=some i∧i.zero=some zv∧(zeroValue e).run P w= .ok zv w∧zv.cells.toList=z∧z.length=P.cellsOf e∧(∀ρ:gQ,aT ρ z z):=by
 unfold zeroOf at hz
 cases hi:P.info? e with
 |none=>simp[hi] at hz
 |some i=>
  cases hz0:i.zero with
  |none=>simp[hi,hz0] at hz
  |some zv=>
   simp only[hi,hz0,Option.bind_some] at hz
   split at hz
   ·rename_i hc
    simp only[Bool.and_eq_true,beq_iff_eq] at hc
    cases hz
    refine⟨i,zv,rfl,hz0,by simp[zeroValue,typeInfo,hi,hz0],rfl,by simpa using hc.2,fun ρ=>?_⟩
    have hp:=gI (ρ:=ρ) zv hc.1.1
    exact hp.cells (by cases zv<;>first|rfl|simp[dG] at hc)
   ·cases hz
theorem tN {t:TypeId} {cs cs':List Value} {off:Nat} {v:Value} (hv:apart P t cs off=some v) (hc:aT ρ cs cs'):
  ∃v',(part t ⟨cs'⟩ off).run P w= .ok v' w∧aD ρ v v':=by
 unfold apart at hv
 cases hb:iG P t with
 |none=>simp[hb] at hv
 |some b=>
  obtain⟨i,hi⟩:=Q9 hb
  rw[hb] at hv
  cases b with
  |true=>
   simp only at hv
   split at hv
   ·cases hv
    refine⟨.agg ⟨(cs'.drop off).take (P.cellsOf t)⟩,?_,?_⟩
    ·simp only[part,Sem.run_bind,F2 hb,Result.andThen_ok,if_true,fH hi,Sem.run_pure]
     grind
    ·simp only[aD]
     exact⟨_,by simp only[kN];exact(hc.drop off).take _,rfl⟩
   ·cases hv
  |false=>
   simp only at hv
   obtain⟨v',hv',hr⟩:=hc.get hv
   refine⟨v',?_,hr⟩
   simp only[part,Sem.run_bind,F2 hb,Result.andThen_ok]
   simp[hv']
theorem Jr (hi:Inv P B ρ h w) {t:TypeId} {a:Addr} {a' v:Value} (ha:aD ρ (.pointer (some a)) a') (hv:rB P h t a=some v):
  ∃v',(Instr.loadAt t a').run P w= .ok v' w∧aD ρ v v':=by
 simp only[aD] at ha
 obtain⟨b,s,hr,rfl⟩:=ha
 unfold rB at hv
 cases hb:iG P t with
 |none=>simp[hb] at hv
 |some x=>
  obtain⟨i,hinf⟩:=Q9 hb
  rw[hb] at hv
  cases x with
  |true=>
   simp only[Option.map_eq_some_iff] at hv
   obtain⟨l,hl,rfl⟩:=hv
   obtain⟨l',hrun,hrel,hs,_⟩:=oW hi hr hl
   refine⟨.agg ⟨l'⟩,?_,?_⟩
   ·rw[hs]
    simp only[Instr.loadAt,Instr.sureAddr,loadVar,Sem.run_bind,Sem.run_pure,Result.andThen_ok,F2 hb,if_true,fH hinf,hrun]
   ·simp only[aD];exact⟨_,by simp only[kN];exact hrel,rfl⟩
  |false=>
   simp only at hv
   split at hv
   ·cases hv
   ·rename_i hs
    have hs:a.spot=none:=by cases hh:a.spot with|none=>rfl|some _=>rw[hh] at hs;exact absurd rfl hs
    split at hv
    ·rename_i c e fz x hg
     obtain⟨o',ho,c',rfl,hc,hsz,_⟩:=hi.pM _ _ hg b s hr
     obtain⟨v',hv',hrel⟩:=hc.get hv
     refine⟨v',?_,hrel⟩
     have hcell:w.cell? ⟨b,a.off+s.2,none⟩=some v':=by
      rw[tD ho]
      rw[List.getElem?_take] at hv'
      split at hv'
      ·rw[List.getElem?_drop] at hv'
       rw[Nat.add_comm]
       simpa using hv'
      ·cases hv'
     rw[hs]
     simp only[Instr.loadAt,Instr.sureAddr,loadVar,Sem.run_bind,Sem.run_pure,Result.andThen_ok,F2 hb]
     simp[hcell]
    ·cases hv
theorem Td (hi:Inv P B ρ h w) {t:TypeId} {a:Addr} {a' v v':Value} {h':AH} (ha:aD ρ (.pointer (some a)) a') (hv:aD ρ v v') (hs:Js P h t a v=some h'):
  ∃w',(Instr.storeAt t a' v').run P w= .ok () w'∧kM P B ρ h w ρ h' w':=by
 simp only[aD] at ha
 obtain⟨b,s,hr,rfl⟩:=ha
 unfold Js iB at hs
 cases ht:wF v with
 |true=>simp[ht] at hs
 |false=>
  simp only[ht,Bool.false_eq_true,if_false] at hs
  split at hs
  ·rename_i hc
   obtain⟨hlen,hsome⟩:=hc
   obtain⟨i,hinf⟩:=Option.isSome_iff_exists.1 hsome
   have hcells:=hv.cells ht
   obtain⟨w',hrun,hevo,hspot⟩:=yU hi hr hs hcells
   refine⟨w',?_,hevo⟩
   rw[hspot]
   have hl:=hcells.length
   simp only[Instr.storeAt,Instr.sureAddr,storeVar,Sem.run_bind,Sem.run_pure,Result.andThen_ok,fH hinf]
   grind
  ·cases hs
def J9 (ρ:gQ):List (Nat×Value)→List (Nat×Value)→Prop
 |[],l=>l=[]
 |(i,v)::l,l'=>∃v' t,aD ρ v v'∧J9 ρ l t∧l'=(i,v')::t
theorem E7:∀(vs:List Value) (c:Array Value) (off i:Nat),off+i+vs.length≤c.size→
  ((vs.zipIdx i).foldl (fun cs (x:Value×Nat)=>cs.setIfInBounds (off+x.2) x.1) c)=⟨bY c.toList (off+i) vs⟩
 |[],c,off,i,_=>by
  apply Array.ext'
  simp[bY]
 |v::vs,c,off,i,hsz=>by
  simp only[List.length_cons] at hsz
  simp only[List.zipIdx_cons,List.foldl_cons]
  rw[E7 vs (c.setIfInBounds (off+i) v) off (i+1) (by simp;omega)]
  congr 1
  simp only[bY,Array.toList_setIfInBounds,List.length_cons]
  rw[show off+(i+1)=off+i+1 by omega,List.take_succ_eq_append_getElem (by simp;omega)]
  simp only[List.getElem_set_self,List.append_assoc,List.nil_append,List.take_set_of_le (Nat.le_refl _),List.cons_append]
  rw[List.drop_set_of_lt (by omega),show off+i+1+vs.length=off+i+(vs.length+1) by omega]
theorem Cd {place:Nat→Option (Nat×Nat)}:∀(parts parts':List (Nat×Value)) (cells cells' r:List Value),J9 ρ parts parts'→aT ρ cells cells'→Bp place cells parts=some r→
  ∃r',Instr.fill place ⟨cells'⟩ parts'=some ⟨r'⟩∧aT ρ r r'
 |[],parts',cells,cells',r,hp,hc,hf=>by
  simp only[J9] at hp;subst hp
  simp only[Bp,Option.some.injEq] at hf;subst hf
  exact⟨cells',rfl,hc⟩
 |(i,v)::parts,parts',cells,cells',r,hp,hc,hf=>by
  simp only[J9] at hp
  obtain⟨v',t,hv,ht,rfl⟩:=hp
  simp only[Bp] at hf
  split at hf
  ·rename_i off size vs hpl hcv
   unfold iB at hcv
   split at hcv
   ·cases hcv
   ·rename_i htop
    cases hcv
    split at hf
    ·rename_i hsz
     have hcells:=hv.cells (by simpa using htop)
     have hl:=hcells.length
     have hcl:=hc.length
     obtain⟨r',hr',hrel⟩:=Cd parts t _ _ r ht (hc.bY off hcells) hf
     refine⟨r',?_,hrel⟩
     simp only[Instr.fill,hpl]
     simp only[Array.length_toList] at hl hsz
     rw[if_neg]
     ·rw[←Array.foldl_toList,Array.toList_zipIdx]
      rw[E7 v'.cells.toList ⟨cells'⟩ off 0 (by simp;omega)]
      simpa using hr'
     grind
    ·cases hf
  ·cases hf
theorem J9.map {α:Type} {f g:α→Value} {k:α→Nat} (hfg:∀x,aD ρ (f x) (g x)):∀l:List α,J9 ρ (l.map fun p=>(k p,f p)) (l.map fun p=>(k p,g p))
 |[]=>rfl
 |x::l=>⟨g x,_,hfg x,J9.map hfg l,rfl⟩
theorem Ik:∀(fs:List Field),(∀f∈fs,(P.info? f.type).isSome)→
  (fs.mapM (m:=Sem) fun f=>do pure (f.offset,←sizeOf f.type)).run P w= .ok (fs.map fun f=>(f.offset,P.cellsOf f.type)) w
 |[],_=>by simp
 |f::fs,hf=>by
  obtain⟨i,hi⟩:=Option.isSome_iff_exists.1 (hf f List.mem_cons_self)
  simp only[List.mapM_cons,Sem.run_bind,fH hi,Result.andThen_ok,Sem.run_pure,Ik fs (fun g hg=>hf g (List.mem_cons_of_mem _ hg)),List.map_cons]
theorem Qz {t:TypeId} {parts:List (Nat×Value)} {parts':Array (Nat×Value)} {v:Value} (hp:J9 ρ parts parts'.toList) (hv:D3 P t parts=some v):
  ∃v',(Instr.build t parts').run P w= .ok v' w∧aD ρ v v':=by
 unfold D3 at hv
 split at hv
 ·rename_i z fs hz hd
  obtain⟨i,zv,_,_,hzr,hzc,_,hzz⟩:=rJ (w:=w) hz
  split at hv
  ·rename_i hall
   simp only[Option.map_eq_some_iff] at hv
   obtain⟨l,hl,rfl⟩:=hv
   obtain⟨r',hr',hrel⟩:=Cd parts parts'.toList z z l hp (hzz ρ) hl
   refine⟨.agg ⟨r'⟩,?_,by simp only[aD];exact⟨_,by simp only[kN];exact hrel,rfl⟩⟩
   have hz':zv.cells=⟨z⟩:=by rw[←hzc]
   have hpl:(fs.mapM (m:=Sem) fun f=>do pure (f.offset,←sizeOf f.type)).run P w= .ok (fs.map fun f=>(f.offset,P.cellsOf f.type)) w:=by
    rw[Array.mapM_eq_mapM_toList]
    simp only[Sem.run_map]
    rw[Ik fs.toList (fun f hf=>by
     have:=Array.all_eq_true'.1 hall f (by simpa using hf)
     exact this)]
    simp only[Result.andThen_ok,Result.ok.injEq,and_true]
    grind
   simp only[Instr.build,Sem.run_bind,hzr,Result.andThen_ok,run_underlying hd,hpl,hz']
   simp_all
  ·cases hv
 ·rename_i z n e hz hd
  obtain⟨i,zv,_,_,hzr,hzc,_,hzz⟩:=rJ (w:=w) hz
  split at hv
  ·rename_i he
   obtain⟨ie,hie⟩:=Option.isSome_iff_exists.1 he
   simp only[Option.map_eq_some_iff] at hv
   obtain⟨l,hl,rfl⟩:=hv
   obtain⟨r',hr',hrel⟩:=Cd parts parts'.toList z z l hp (hzz ρ) hl
   refine⟨.agg ⟨r'⟩,?_,by simp only[aD];exact⟨_,by simp only[kN];exact hrel,rfl⟩⟩
   have hz':zv.cells=⟨z⟩:=by rw[←hzc]
   simp only[Instr.build,Sem.run_bind,hzr,Result.andThen_ok,run_underlying hd,fH hie,hz',hr']
   rfl
  ·cases hv
 ·cases hv
end Go.Ab
end
section
namespace Go.Ab
open Go.RowKit
variable {P:Program} {B:Nat} {ρ:gQ} {h:AH} {w:World}
def xH (ρ:gQ):Option Value→Option Value→Prop
 |none,v=>v=none
 |some v,v'=>∃u,aD ρ v u∧v'=some u
theorem xH.map {ev ev':Operand→Value} (hev:∀x,aD ρ (ev x) (ev' x)) (o:Option Operand):xH ρ (o.map ev) (o.map ev'):=by
 cases o with
 |none=>rfl
 |some x=>exact⟨_,hev x,rfl⟩
theorem qM {v v':Value} (hv:aD ρ v v') {d y y' r:Nat} (hy:y≤y') (hb:jZ (some v) d y=some r):(∀code,(Instr.sliceBound v' y' code).run P w= .ok r w)∧r≤y:=by
 unfold jZ at hb
 split at hb
 ·rename_i he;cases he
 ·rename_i k i he
  cases he
  simp only[aD] at hv
  subst hv
  split at hb
  ·rename_i hi
   cases hb
   exact⟨fun code=>run_sliceBound w k i y' code hi.1 (by omega),by omega⟩
  ·cases hb
 ·cases hb
theorem rO {lo hi mx lo' hi' mx':Option Value} (hlo:xH ρ lo lo') (hhi:xH ρ hi hi') (hmx:xH ρ mx mx') (s6:Bool) {len cap cap' m hh l:Nat} (hc:cap≤cap')
  (h1:jZ mx cap cap=some m) (h2:(if hi.isNone&&mx.isSome then none else jZ hi len m)=some hh) (h3:jZ lo 0 hh=some l):
  (Instr.sliceBounds s6 len cap' lo' hi' mx').run P w= .ok (l,hh,if mx.isSome then m else cap') w∧m≤cap∧l≤hh∧(mx=none→m=cap):=by
 cases mx with
 |none=>
  simp only[xH] at hmx;subst hmx
  simp only[jZ,Option.some.injEq] at h1;subst h1
  cases hi with
  |none=>
   simp only[xH] at hhi;subst hhi
   simp[jZ] at h2;subst h2
   cases lo with
   |none=>simp only[xH] at hlo;subst hlo;simp[jZ] at h3;subst h3;simp[Instr.sliceBounds]
   |some v=>
    obtain⟨u,hu,rfl⟩:=hlo
    obtain⟨hr,hle⟩:=qM (P:=P) (w:=w) hu (Nat.le_refl _) h3
    simp[Instr.sliceBounds,hr,hle]
  |some v=>
   obtain⟨u,hu,rfl⟩:=hhi
   simp at h2
   obtain⟨hr,hle⟩:=qM (P:=P) (w:=w) hu hc h2
   cases lo with
   |none=>simp only[xH] at hlo;subst hlo;simp[jZ] at h3;subst h3;simp[Instr.sliceBounds,hr]
   |some v=>
    obtain⟨u,hu,rfl⟩:=hlo
    obtain⟨hr2,hle2⟩:=qM (P:=P) (w:=w) hu (Nat.le_refl _) h3
    simp[Instr.sliceBounds,hr,hr2,hle2]
 |some x=>
  obtain⟨ux,hux,rfl⟩:=hmx
  obtain⟨hr0,hle0⟩:=qM (P:=P) (w:=w) hux hc h1
  cases hi with
  |none=>simp at h2
  |some v=>
   obtain⟨u,hu,rfl⟩:=hhi
   simp at h2
   obtain⟨hr,hle⟩:=qM (P:=P) (w:=w) hu (Nat.le_refl _) h2
   cases lo with
   |none=>simp only[xH] at hlo;subst hlo;simp[jZ] at h3;subst h3;simp[Instr.sliceBounds,hr0,hr,hle0]
   |some v=>
    obtain⟨u,hu,rfl⟩:=hlo
    obtain⟨hr2,hle2⟩:=qM (P:=P) (w:=w) hu (Nat.le_refl _) h3
    simp[Instr.sliceBounds,hr0,hr,hr2,hle2,hle0]
theorem Qu (hi:Inv P B ρ h w) {t:TypeId} {x x':Value} {lo hi_ mx lo' hi' mx':Option Value} {v:Value} (hx:aD ρ x x') (hlo:xH ρ lo lo') (hhi:xH ρ hi_ hi') (hmx:xH ρ mx mx')
  (hv:rH P h t x lo hi_ mx=some v):∃v',(Instr.sliceAt t x' lo' hi' mx').run P w= .ok v' w∧aD ρ v v':=by
 unfold rH at hv
 split at hv
 ·
  rename_i n e a hd
  simp only[aD] at hx
  obtain⟨b,s,hr,rfl⟩:=hx
  split at hv
  ·rename_i m h1
   split at hv
   ·rename_i hh h2
    split at hv
    ·rename_i l h3
     split at hv
     ·rename_i hc
      cases hv
      obtain⟨i,hinf⟩:=Option.isSome_iff_exists.1 hc.1
      obtain⟨hb,_,_,hm⟩:=rO (P:=P) (w:=w) hlo hhi hmx false (Nat.le_refl n) h1 h2 h3
      have hmm:(if mx.isSome then m else n)=m:=by simp_all
      rw[hmm] at hb
      obtain⟨ab,ao,asp⟩:=a
      obtain rfl:asp=none:=hc.2
      refine⟨.slice (some (if m=l then⟨b,ao+s.2,none⟩ else Addr.add ⟨b,ao+s.2,none⟩ (l*P.cellsOf e))) (hh - l) (m - l),?_,?_⟩
      ·simp only[Instr.sliceAt,Sem.run_bind,run_underlying hd,Result.andThen_ok,Instr.sureAddr,Sem.run_pure,hb,fH hinf]
      ·rw[cX,cX]
       split<;>(simp only[aD];exact⟨b,s,_,hr,Nat.le_refl _,Nat.le_add_right _ _,by grind⟩)
     ·cases hv
    ·cases hv
   ·cases hv
  ·cases hv
 ·
  rename_i s hd
  simp only[aD] at hx;subst hx
  split at hv
  ·cases hv
  ·rename_i hmx0
   have hmx0:mx=none:=by simp_all
   subst hmx0
   split at hv
   ·rename_i hh h2
    split at hv
    ·rename_i l h3
     cases hv
     obtain⟨hb,_⟩:=rO (P:=P) (w:=w) hlo hhi hmx false (Nat.le_refl s.size) (m:=s.size) rfl (by simpa using h2) h3
     simp only[xH] at hmx;subst hmx
     refine⟨.string (s.extract l hh),?_,by simp only[aD]⟩
     simp only[Instr.sliceAt,Instr.slice,Sem.run_bind,run_underlying hd,Result.andThen_ok,Option.isSome_none,Bool.false_eq_true,if_false,Sem.run_pure] at hb ⊢
     simp[hb]
    ·cases hv
   ·cases hv
 ·
  rename_i e len cap hd
  simp only[aD] at hx;subst hx
  split at hv
  ·rename_i m h1
   split at hv
   ·rename_i hh h2
    split at hv
    ·rename_i l h3
     split at hv
     ·rename_i hc
      cases hv
      obtain⟨i,hinf⟩:=Option.isSome_iff_exists.1 hc
      obtain⟨hb,_,_,hm⟩:=rO (P:=P) (w:=w) hlo hhi hmx true (Nat.le_refl cap) h1 h2 h3
      have hmm:(if mx.isSome then m else cap)=m:=by simp_all
      rw[hmm] at hb
      refine⟨.slice none (hh - l) (m - l),?_,by simp only[aD]⟩
      simp only[Instr.sliceAt,Instr.slice,Sem.run_bind,run_underlying hd,Result.andThen_ok,hb,fH hinf,Sem.run_pure,Option.map_none]
      simp
     ·cases hv
    ·cases hv
   ·cases hv
  ·cases hv
 ·
  rename_i e a len cap hd
  obtain⟨ab,ao,asp⟩:=a
  split at hv
  ·rename_i m h1
   split at hv
   ·rename_i hh h2
    split at hv
    ·rename_i l h3
     split at hv
     ·
      rename_i hs
      obtain⟨sp,rfl⟩:∃sp,asp=some sp:=by cases asp with|none=>simp at hs|some sp=>exact⟨sp,rfl⟩
      split at hv
      ·rename_i hc
       obtain⟨hinf,rfl,rfl⟩:=hc
       cases hv
       obtain⟨i,hinf⟩:=Option.isSome_iff_exists.1 hinf
       simp only[aD] at hx
       obtain⟨_,_,a',c',_,_,rfl⟩:=hx
       obtain⟨hb,hmc,hlh,hm⟩:=rO (P:=P) (w:=w) hlo hhi hmx true (Nat.zero_le c') h1 h2 h3
       obtain rfl:m=0:=by omega
       have hz:hh=0:=by
        cases hi_ with
        |none=>
         simp_all
        |some v=>
         simp at h2
         unfold jZ at h2
         grind
       subst hz
       obtain rfl:l=0:=by omega
       cases hms:mx.isSome with
       |true=>
        refine⟨.slice (some a') 0 0,?_,?_⟩
        ·simp only[Instr.sliceAt,Instr.slice,Sem.run_bind,run_underlying hd,Result.andThen_ok,hb,fH hinf,Sem.run_pure,Option.map_some,hms,if_true]
        ·simp only[if_true,rD,aD]
         grind
       |false=>
        refine⟨.slice (some (if c'=0 then a' else a'.add (0*P.cellsOf e))) 0 c',?_,?_⟩
        ·simp only[Instr.sliceAt,Instr.slice,Sem.run_bind,run_underlying hd,Result.andThen_ok,hb,fH hinf,Sem.run_pure,Option.map_some,hms,Bool.false_eq_true,if_false,Nat.sub_zero]
         split<;>rfl
        ·simp only[Bool.false_eq_true,if_false,aBk,aD]
         grind
      ·cases hv
     ·rename_i hs
      have hs:asp=none:=by simp_all
      subst hs
      simp only[aD] at hx
      obtain⟨b,s,c',hr,hc1,hc2,rfl⟩:=hx
      split at hv
      ·rename_i hc
       obtain⟨i,hinf⟩:=Option.isSome_iff_exists.1 hc.1
       obtain⟨hb,hmc,hlh,hm⟩:=rO (P:=P) (w:=w) hlo hhi hmx true hc1 h1 h2 h3
       have hrun:(Instr.sliceAt t (.slice (some ⟨b,ao+s.2,none⟩) len c') lo' hi' mx').run P w=
         .ok (.slice (some (if(if mx.isSome then m else c')=l then⟨b,ao+s.2,none⟩ else⟨b,ao+s.2+l*P.cellsOf e,none⟩)) (hh - l) ((if mx.isSome then m else c') - l)) w:=by
        simp only[Instr.sliceAt,Instr.slice,Sem.run_bind,run_underlying hd,Result.andThen_ok,hb,fH hinf,Sem.run_pure,Option.map_some,cX]
        grind
       refine⟨_,hrun,?_⟩
       split at hv
       ·rename_i hml
        subst hml
        obtain rfl:hh=m:=by omega
        split at hv
        ·rename_i hms
         cases hv
         simp only[hms,if_true,rD,aD]
         grind
        ·rename_i hms
         have hmn:mx=none:=by simp_all
         subst hmn
         have hm:=hm rfl
         subst hm
         split at hv
         ·rename_i hex
          cases hv
          unfold oT at hex
          split at hex
          ·rename_i c el fz x hg
           cases hex
           obtain⟨_,_,_,_,_,_,hx0⟩:=hi.pM _ _ hg b s hr
           have hs0:s.1=0:=(hx0 rfl).1
           simp only[Option.isSome_none,Bool.false_eq_true,if_false,rD,aD]
           grind
          ·cases hex
         ·cases hv
          rw[cX]
          simp only[Option.isSome_none,Bool.false_eq_true,if_false,yC,aD]
          rw[Nat.sub_self]
          refine⟨trivial,trivial,_,c' - hh,fun hh=>absurd hh (by omega),fun _=>⟨b,s,hr,by omega,fun hpos=>?_⟩,rfl⟩
          grind
         ·cases hv
       ·rename_i hml
        cases hv
        cases mx with
        |none=>
         have hm:=hm rfl
         subst hm
         simp only[Option.isSome_none,Bool.false_eq_true,if_false]
         rw[if_neg (by omega),cX]
         simp only[aD]
         grind
        |some y=>
         simp only[Option.isSome_some,if_true]
         rw[cX,if_neg hml]
         simp only[aD]
         grind
      ·cases hv
    ·cases hv
   ·cases hv
  ·cases hv
 ·cases hv
end Go.Ab
end
section
namespace Go.Ab
open Go.RowKit
variable {P:Program} {B:Nat} {ρ:gQ} {h:AH} {w:World}
theorem rM {d:Nat} {eq:TypeId→Value→Value→Option Bool} (heq:∀t x y x' y' r,aD ρ x x'→aD ρ y y'→eq t x y=some r→(Op.equalIn d t x' y').run P w= .ok r w)
  {xs ys xs' ys':List Value} (hx:aT ρ xs xs') (hy:aT ρ ys ys'):∀(fs:List Field) (r:Bool),kS P eq xs ys fs=some r→(Op.eqFields d ⟨xs'⟩ ⟨ys'⟩ fs).run P w= .ok r w
 |[],r,h=>by simp only[kS,Option.some.injEq] at h;subst h;simp[Op.eqFields]
 |f::fs,r,h=>by
  simp only[kS] at h
  split at h
  ·rename_i hn
   simp only[Op.eqFields,hn,ne_eq,not_true_eq_false,if_false]
   exact rM heq hx hy fs r h
  ·rename_i hn
   simp only[Op.eqFields,ne_eq,hn,not_false_eq_true,if_true,Sem.run_bind]
   split at h
   ·rename_i x y h1 h2
    obtain⟨x',hxr,hxv⟩:=tN (P:=P) (w:=w) h1 hx
    obtain⟨y',hyr,hyv⟩:=tN (P:=P) (w:=w) h2 hy
    simp only[hxr,hyr,Result.andThen_ok]
    split at h
    ·rename_i h3
     have:=heq _ _ _ _ _ _ hxv hyv h3
     simp only[this,Result.andThen_ok]
     simpa using rM heq hx hy fs r h
    ·rename_i h3
     cases h
     have:=heq _ _ _ _ _ _ hxv hyv h3
     simp[this]
    ·cases h
   ·cases h
theorem zW {d:Nat} {e:TypeId} {eq:TypeId→Value→Value→Option Bool} (heq:∀t x y x' y' r,aD ρ x x'→aD ρ y y'→eq t x y=some r→(Op.equalIn d t x' y').run P w= .ok r w)
  {xs ys xs' ys':List Value} (hx:aT ρ xs xs') (hy:aT ρ ys ys'):∀(is:List Nat) (r:Bool),pC P eq e xs ys is=some r→(Op.eqItems d e (P.cellsOf e) ⟨xs'⟩ ⟨ys'⟩ is).run P w= .ok r w
 |[],r,h=>by simp only[pC,Option.some.injEq] at h;subst h;simp[Op.eqItems]
 |i::is,r,h=>by
  simp only[pC] at h
  simp only[Op.eqItems,Sem.run_bind]
  split at h
  ·rename_i x y h1 h2
   obtain⟨x',hxr,hxv⟩:=tN (P:=P) (w:=w) h1 hx
   obtain⟨y',hyr,hyv⟩:=tN (P:=P) (w:=w) h2 hy
   simp only[hxr,hyr,Result.andThen_ok]
   split at h
   ·rename_i h3
    have:=heq _ _ _ _ _ _ hxv hyv h3
    simp only[this,Result.andThen_ok]
    simpa using zW heq hx hy is r h
   ·rename_i h3
    cases h
    have:=heq _ _ _ _ _ _ hxv hyv h3
    simp[this]
   ·cases h
  ·cases h
set_option maxHeartbeats 1000000 in
theorem Z8 (d:Nat):∀(t:TypeId) (x y x' y':Value) (r:Bool),aD ρ x x'→aD ρ y y'→wX P d t x y=some r→(Op.equalIn d t x' y').run P w= .ok r w:=by
 induction d with
 |zero=>intro _ _ _ _ _ _ _ _ h;simp[wX] at h
 |succ d ih=>
  intro t x y x' y' r hx hy h
  unfold wX at h
  split at h
  ·rename_i hd;simp only[aD] at hx hy;subst hx;subst hy;cases h;simp[Op.equalIn,run_underlying hd]
  ·rename_i hd
   simp only[aD] at hx hy;subst hx;subst hy
   split at h
   ·rename_i hk;cases h;simp[Op.equalIn,run_underlying hd,hk]
   ·cases h
  ·rename_i hd;simp only[aD] at hx hy;subst hx;subst hy;cases h;simp[Op.equalIn,run_underlying hd]
  ·rename_i b hd
   simp only[aD] at hx;subst hx;cases h
   cases b with
   |none=>simp only[aD] at hy;subst hy;simp[Op.equalIn,run_underlying hd]
   |some b=>simp only[aD] at hy;obtain⟨_,_,_,rfl⟩:=hy;simp[Op.equalIn,run_underlying hd]
  ·rename_i hd
   simp only[aD] at hx hy;obtain⟨_,_,_,rfl⟩:=hx;subst hy;cases h;simp[Op.equalIn,run_underlying hd]
  ·rename_i hd;simp only[aD] at hx hy;subst hx;subst hy;cases h;simp[Op.equalIn,run_underlying hd]
  ·rename_i hd;simp only[aD] at hx hy;subst hx;obtain⟨_,_,rfl⟩:=hy;cases h;simp[Op.equalIn,run_underlying hd]
  ·rename_i hd;simp only[aD] at hx hy;obtain⟨_,_,rfl⟩:=hx;subst hy;cases h;simp[Op.equalIn,run_underlying hd]
  ·rename_i fs xs ys hd
   simp only[aD] at hx hy
   obtain⟨xs',hxs,rfl⟩:=hx
   obtain⟨ys',hys,rfl⟩:=hy
   split at h
   ·cases h
   ·rename_i hst
    have hf:P.fieldsOf t=fs:=by simp[Program.fieldsOf,hd]
    rw[run_equalIn_struct w d t xs' ys' (by rw[hf];exact hd) (by simpa using hst),hf]
    exact rM ih (hZ.1 hxs) (hZ.1 hys) _ _ h
  ·rename_i n e xs ys hd
   simp only[aD] at hx hy
   obtain⟨xs',hxs,rfl⟩:=hx
   obtain⟨ys',hys,rfl⟩:=hy
   split at h
   ·rename_i he
    obtain⟨i,hi⟩:=Option.isSome_iff_exists.1 he
    rw[run_equalIn_array w d xs' ys' hd hi]
    exact zW ih (hZ.1 hxs) (hZ.1 hys) _ _ h
   ·cases h
  ·rename_i b _ _ hd
   simp only[aD] at hx;subst hx;cases h
   cases b with
   |none=>simp only[aD] at hy;subst hy;simp[Op.equalIn,run_underlying hd]
   |some b=>
    obtain⟨_,_,sp⟩:=b
    cases sp with
    |none=>simp only[aD] at hy;obtain⟨_,_,_,_,_,_,rfl⟩:=hy;simp[Op.equalIn,run_underlying hd]
    |some _=>simp only[aD] at hy;obtain⟨_,_,_,_,_,_,rfl⟩:=hy;simp[Op.equalIn,run_underlying hd]
  ·rename_i a _ _ _ _ hd
   simp only[aD] at hy;subst hy;cases h
   obtain⟨_,_,sp⟩:=a
   cases sp with
   |none=>simp only[aD] at hx;obtain⟨_,_,_,_,_,_,rfl⟩:=hx;simp[Op.equalIn,run_underlying hd]
   |some _=>simp only[aD] at hx;obtain⟨_,_,_,_,_,_,rfl⟩:=hx;simp[Op.equalIn,run_underlying hd]
  ·rename_i b hd
   simp only[aD] at hx;subst hx;cases h
   cases b with
   |none=>simp only[aD] at hy;subst hy;simp[Op.equalIn,run_underlying hd]
   |some b=>simp only[aD] at hy;obtain⟨_,_,_,rfl⟩:=hy;simp[Op.equalIn,run_underlying hd]
  ·rename_i hd
   simp only[aD] at hx hy;obtain⟨_,_,_,rfl⟩:=hx;subst hy;cases h;simp[Op.equalIn,run_underlying hd]
  ·rename_i hd;simp only[aD] at hx hy;subst hx;subst hy;cases h;simp[Op.equalIn,run_underlying hd]
  ·rename_i hd;simp only[aD] at hx hy;subst hx;obtain⟨_,_,_,_,_,_,rfl⟩:=hy;cases h;simp[Op.equalIn,run_underlying hd]
  ·rename_i hd;simp only[aD] at hx hy;obtain⟨_,_,_,_,_,_,rfl⟩:=hx;subst hy;cases h;simp[Op.equalIn,run_underlying hd]
  ·cases h
end Go.Ab
end
section
namespace Go.Ab
open Go.RowKit
variable {P:Program} {B:Nat} {ρ:gQ} {h:AH} {w:World}
theorem Lx {op:BinOp} {t:TypeId} {x y:Operand} {a b a' b':Value} (ha:aD ρ a a') (hb:aD ρ b b') (h1:wF a=false) (h2:wF b=false) (hq:Fa P t x y a b=true):
  (eqGuard op t x y a' b').run P w= .ok () w:=by
 cases a with
 |chan r=>simp[wF] at h1
 |nilIface=>
  simp only[aD] at ha;subst ha
  cases b with
  |chan r=>simp[wF] at h2
  |nilIface=>
   simp only[aD] at hb;subst hb
   simp only[Fa,Bool.or_eq_true] at hq
   cases x with
   |const c=>rw[eqGuard_nil_constL];rfl
   |_=>
    cases y with
    |const c=>rw[eqGuard_nil_constR];rfl
    |_=>simp[isConst] at hq
  |iface u v=>simp only[aD] at hb;obtain⟨_,_,rfl⟩:=hb;rw[eqGuard_nil_iface];rfl
  |agg cs=>simp only[aD] at hb;obtain⟨_,_,rfl⟩:=hb;cases op<;>rfl
  |tuple cs=>simp only[aD] at hb;obtain⟨_,_,rfl⟩:=hb;cases op<;>rfl
  |func fn f c=>simp only[aD] at hb;obtain⟨_,_,_,_,_,_,rfl⟩:=hb;cases op<;>rfl
  |pointer a=>cases a with
   |none=>simp only[aD] at hb;subst hb;cases op<;>rfl
   |some a=>simp only[aD] at hb;obtain⟨_,_,_,rfl⟩:=hb;cases op<;>rfl
  |map a=>cases a with
   |none=>simp only[aD] at hb;subst hb;cases op<;>rfl
   |some a=>simp only[aD] at hb;obtain⟨_,_,_,rfl⟩:=hb;cases op<;>rfl
  |slice a _ _=>cases a with
   |none=>simp only[aD] at hb;subst hb;cases op<;>rfl
   |some a=>
    obtain⟨_,_,sp⟩:=a
    cases sp with
    |none=>simp only[aD] at hb;obtain⟨_,_,_,_,_,_,rfl⟩:=hb;cases op<;>rfl
    |some _=>simp only[aD] at hb;obtain⟨_,_,_,_,_,_,rfl⟩:=hb;cases op<;>rfl
  |_=>simp only[aD] at hb;subst hb;cases op<;>rfl
 |iface u v=>simp only[aD] at ha;obtain⟨_,_,rfl⟩:=ha;rw[eqGuard_at_iface];rfl
 |tuple cs=>simp only[aD] at ha;obtain⟨_,_,rfl⟩:=ha;rw[eqGuard_at_tuple];rfl
 |func fn f c=>simp only[aD] at ha;obtain⟨_,_,_,_,_,_,rfl⟩:=ha;rw[eqGuard_at_func];rfl
 |pointer a=>cases a with
  |none=>simp only[aD] at ha;subst ha;rw[eqGuard_at_pointer];rfl
  |some a=>simp only[aD] at ha;obtain⟨_,_,_,rfl⟩:=ha;rw[eqGuard_at_pointer];rfl
 |map a=>cases a with
  |none=>simp only[aD] at ha;subst ha;rw[eqGuard_at_map];rfl
  |some a=>simp only[aD] at ha;obtain⟨_,_,_,rfl⟩:=ha;rw[eqGuard_at_map];rfl
 |slice a _ _=>cases a with
  |none=>simp only[aD] at ha;subst ha;rw[eqGuard_at_slice];rfl
  |some a=>
   obtain⟨_,_,sp⟩:=a
   cases sp with
   |none=>simp only[aD] at ha;obtain⟨_,_,_,_,_,_,rfl⟩:=ha;rw[eqGuard_at_slice];rfl
   |some _=>simp only[aD] at ha;obtain⟨_,_,_,_,_,_,rfl⟩:=ha;rw[eqGuard_at_slice];rfl
 |bool _=>simp only[aD] at ha;subst ha;rw[eqGuard_at_bool];rfl
 |int _ _=>simp only[aD] at ha;subst ha;rw[eqGuard_at_int];rfl
 |float _ _=>simp only[aD] at ha;subst ha;rw[eqGuard_at_float];rfl
 |complex _ _ _=>simp only[aD] at ha;subst ha;rw[eqGuard_at_complex];rfl
 |string _=>simp only[aD] at ha;subst ha;rw[eqGuard_at_string];rfl
 |nilFunc=>simp only[aD] at ha;subst ha;rw[eqGuard_at_nilFunc];rfl
 |agg cs=>
  simp only[aD] at ha;obtain⟨cs',_,rfl⟩:=ha
  cases b with
  |agg ds=>
   simp only[aD] at hb;obtain⟨ds',_,rfl⟩:=hb
   simp only[Fa,Bool.not_eq_true'] at hq
   exact run_eqGuard_agg w op t x y cs' ds' hq
  |chan r=>simp[wF] at h2
  |iface u v=>simp only[aD] at hb;obtain⟨_,_,rfl⟩:=hb;cases op<;>rfl
  |tuple cs=>simp only[aD] at hb;obtain⟨_,_,rfl⟩:=hb;cases op<;>rfl
  |func fn f c=>simp only[aD] at hb;obtain⟨_,_,_,_,_,_,rfl⟩:=hb;cases op<;>rfl
  |pointer a=>cases a with
   |none=>simp only[aD] at hb;subst hb;cases op<;>rfl
   |some a=>simp only[aD] at hb;obtain⟨_,_,_,rfl⟩:=hb;cases op<;>rfl
  |map a=>cases a with
   |none=>simp only[aD] at hb;subst hb;cases op<;>rfl
   |some a=>simp only[aD] at hb;obtain⟨_,_,_,rfl⟩:=hb;cases op<;>rfl
  |slice a _ _=>cases a with
   |none=>simp only[aD] at hb;subst hb;cases op<;>rfl
   |some a=>
    obtain⟨_,_,sp⟩:=a
    cases sp with
    |none=>simp only[aD] at hb;obtain⟨_,_,_,_,_,_,rfl⟩:=hb;cases op<;>rfl
    |some _=>simp only[aD] at hb;obtain⟨_,_,_,_,_,_,rfl⟩:=hb;cases op<;>rfl
  |_=>simp only[aD] at hb;subst hb;cases op<;>rfl
theorem A6 {d:Nat} {t:TypeId} {x y:Value} {r:Bool} (h:wX P d t x y=some r):wF x=false∧wF y=false:=by
 cases d with
 |zero=>simp[wX] at h
 |succ d=>unfold wX at h;split at h<;>first|exact⟨rfl,rfl⟩|cases h
theorem A7 {op:BinOp} {k k':IntKind} {t:TypeId} {m n:Int} {v:Value} (hv:Je op k m n=some v):(binOp op t (.int k m) (.int k' n)).run P w= .ok v w∧∀ρ:gQ,aD ρ v v:=by
 unfold Je at hv
 split at hv
 ·cases hv
 ·rename_i hn
  split at hv
  ·cases hv;exact⟨by simp[binOp,Op.shift,hn],fun ρ=>by simp only[aD]⟩
  ·cases hv;exact⟨by simp[binOp,Op.shift,hn],fun ρ=>by simp only[aD]⟩
  ·cases hv
theorem my {op:BinOp} {k:IntKind} {t:TypeId} {m n:Int} {v:Value} (hv:Kh op k m n=some v):(binOp op t (.int k m) (.int k n)).run P w= .ok v w∧∀ρ:gQ,aD ρ v v:=by
 cases op<;>simp only[Kh,aEj,Option.map_some,Option.some.injEq] at hv<;>try cases hv
 case shl=>exact A7 hv
 case shr=>exact A7 hv
 case and=>exact⟨by simp[binOp,Op.intBits],fun ρ=>by simp only[aD]⟩
 case or=>exact⟨by simp[binOp,Op.intBits],fun ρ=>by simp only[aD]⟩
 case xor=>exact⟨by simp[binOp,Op.intBits],fun ρ=>by simp only[aD]⟩
 case andNot=>exact⟨by simp[binOp,Op.intBits],fun ρ=>by simp only[aD]⟩
 case add=>exact⟨by rw[binOp_add];rfl,fun ρ=>by simp only[aD]⟩
 case sub=>exact⟨by rw[binOp_sub];rfl,fun ρ=>by simp only[aD]⟩
 case mul=>exact⟨by rw[binOp_mul];rfl,fun ρ=>by simp only[aD]⟩
 case quo=>
  split at hv
  ·cases hv
  ·rename_i h;cases hv;exact⟨by rw[binOp_quo];simp[Op.intDiv,h],fun ρ=>by simp only[aD]⟩
 case rem=>
  split at hv
  ·cases hv
  ·rename_i h;cases hv;exact⟨by rw[binOp_rem];simp[Op.intDiv,h],fun ρ=>by simp only[aD]⟩
 case eql=>exact⟨by rw[binOp_eql];rfl,fun ρ=>by simp only[aD]⟩
 case neq=>exact⟨by rw[binOp_neq];rfl,fun ρ=>by simp only[aD]⟩
 case lss=>exact⟨by rw[binOp_lss];rfl,fun ρ=>by simp only[aD]⟩
 case leq=>exact⟨by rw[binOp_leq];rfl,fun ρ=>by simp only[aD]⟩
 case gtr=>exact⟨by rw[binOp_gtr];rfl,fun ρ=>by simp only[aD]⟩
 case geq=>exact⟨by rw[binOp_geq];rfl,fun ρ=>by simp only[aD]⟩
theorem j3 {op:BinOp} {t:TypeId} {m n:ByteArray} {v:Value} (hv:xm op m n=some v):(binOp op t (.string m) (.string n)).run P w= .ok v w∧∀ρ:gQ,aD ρ v v:=by
 cases op<;>simp only[xm,Option.some.injEq] at hv<;>try cases hv
 case add=>
  split at hv
  ·rename_i h
   cases hv
   refine⟨?_,fun ρ=>by simp only[aD]⟩
   have:¬(((m.size+n.size:Nat):Int)>IntKind.i64.max):=by rw[IntKind.max_i64];omega
   simp only[binOp,Op.stringOp]
   rw[if_neg this];rfl
  ·cases hv
 case eql=>exact⟨by simp[binOp,Op.stringOp],fun ρ=>by simp only[aD]⟩
 case neq=>exact⟨by simp[binOp,Op.stringOp],fun ρ=>by simp only[aD]⟩
 case lss=>exact⟨by simp[binOp,Op.stringOp],fun ρ=>by simp only[aD]⟩
theorem Ah {t:TypeId} {a b a' b':Value} {r:Bool} (ha:aD ρ a a') (hb:aD ρ b b') (hq:wX P 10000 t a b=some r) (hni:∀k m k' n,¬(a= .int k m∧b= .int k' n)) (hns:∀m n,¬(a= .string m∧b= .string n)):
  (binOp .eql t a' b').run P w= .ok (.bool r) w∧(binOp .neq t a' b').run P w= .ok (.bool !r) w:=by
 have he:(Op.equal t a' b').run P w= .ok r w:=Z8 10000 t a b a' b' r ha hb hq
 obtain⟨h1,h2⟩:=A6 hq
 have key:∀op,(op=BinOp.eql∨op=BinOp.neq)→binOp op t a' b'=(if op= .eql then(do pure (.bool (←Op.equal t a' b')):Sem Value) else do pure (.bool (!(←Op.equal t a' b')))):=by
  intro op hop
  cases a with
  |chan r=>simp[wF] at h1
  |int k m=>
   simp only[aD] at ha;subst ha
   cases b with
   |int k' n=>grind
   |_=>
    unfold wX at hq
    grind
  |string m=>
   simp only[aD] at ha;subst ha
   cases b with
   |string n=>grind
   |_=>
    unfold wX at hq
    grind
  |float k m=>unfold wX at hq;grind
  |complex k m n=>unfold wX at hq;grind
  |tuple cs=>unfold wX at hq;grind
  |bool c=>simp only[aD] at ha;subst ha;rcases hop with rfl|rfl<;>simp[binOp]
  |nilFunc=>simp only[aD] at ha;subst ha;rcases hop with rfl|rfl<;>simp[binOp]
  |nilIface=>simp only[aD] at ha;subst ha;rcases hop with rfl|rfl<;>simp[binOp]
  |iface u v=>simp only[aD] at ha;obtain⟨_,_,rfl⟩:=ha;rcases hop with rfl|rfl<;>simp[binOp]
  |func fn f c=>simp only[aD] at ha;obtain⟨_,_,_,_,_,_,rfl⟩:=ha;rcases hop with rfl|rfl<;>simp[binOp]
  |agg cs=>simp only[aD] at ha;obtain⟨_,_,rfl⟩:=ha;rcases hop with rfl|rfl<;>simp[binOp]
  |pointer a=>cases a with
   |none=>simp only[aD] at ha;subst ha;rcases hop with rfl|rfl<;>simp[binOp]
   |some a=>simp only[aD] at ha;obtain⟨_,_,_,rfl⟩:=ha;rcases hop with rfl|rfl<;>simp[binOp]
  |map a=>cases a with
   |none=>simp only[aD] at ha;subst ha;rcases hop with rfl|rfl<;>simp[binOp]
   |some a=>simp only[aD] at ha;obtain⟨_,_,_,rfl⟩:=ha;rcases hop with rfl|rfl<;>simp[binOp]
  |slice a _ _=>cases a with
   |none=>simp only[aD] at ha;subst ha;rcases hop with rfl|rfl<;>simp[binOp]
   |some a=>
    obtain⟨_,_,sp⟩:=a
    cases sp with
    |none=>simp only[aD] at ha;obtain⟨_,_,_,_,_,_,rfl⟩:=ha;rcases hop with rfl|rfl<;>simp[binOp]
    |some _=>simp only[aD] at ha;obtain⟨_,_,_,_,_,_,rfl⟩:=ha;rcases hop with rfl|rfl<;>simp[binOp]
 simp_all
theorem dt {op:BinOp} {t:TypeId} {x y:Operand} {a b a' b' v:Value} (ha:aD ρ a a') (hb:aD ρ b b') (hv:Nx P op t x y a b=some v):
  ∃v',(do eqGuard op t x y a' b';binOp op t a' b':Sem Value).run P w= .ok v' w∧aD ρ v v':=by
 unfold Nx at hv
 split at hv
 ·rename_i k m k' n
  simp only[aD] at ha hb;subst ha;subst hb
  split at hv
  ·rename_i hk;subst hk
   obtain⟨h1,h2⟩:=my (P:=P) (w:=w) (t:=t) hv
   exact⟨v,by simp only[Sem.run_bind,eqGuard_at_int,Sem.run_pure,Result.andThen_ok,h1],h2 ρ⟩
  ·obtain⟨h1,h2⟩:=A7 (P:=P) (w:=w) (t:=t) (k':=k') hv
   exact⟨v,by simp only[Sem.run_bind,eqGuard_at_int,Sem.run_pure,Result.andThen_ok,h1],h2 ρ⟩
 ·rename_i m n
  simp only[aD] at ha hb;subst ha;subst hb
  obtain⟨h1,h2⟩:=j3 (P:=P) (w:=w) (t:=t) hv
  exact⟨v,by simp only[Sem.run_bind,eqGuard_at_string,Sem.run_pure,Result.andThen_ok,h1],h2 ρ⟩
 ·rename_i hni hns
  have hni':∀k m k' n,¬(a= .int k m∧b= .int k' n):=fun k m k' n hh=>hni k m k' n hh.1 hh.2
  have hns':∀m n,¬(a= .string m∧b= .string n):=fun m n hh=>hns m n hh.1 hh.2
  split at hv
  ·split at hv
   ·rename_i hq
    simp only[Option.map_eq_some_iff] at hv
    obtain⟨r,hr,rfl⟩:=hv
    obtain⟨h1,h2⟩:=A6 hr
    refine⟨.bool r,?_,by simp only[aD]⟩
    simp only[Sem.run_bind,Lx ha hb h1 h2 hq,Result.andThen_ok,(Ah ha hb hr hni' hns').1]
   ·cases hv
  ·split at hv
   ·rename_i hq
    simp only[Option.map_eq_some_iff] at hv
    obtain⟨r,hr,rfl⟩:=hv
    obtain⟨h1,h2⟩:=A6 hr
    refine⟨.bool !r,?_,by simp only[aD]⟩
    simp only[Sem.run_bind,Lx ha hb h1 h2 hq,Result.andThen_ok,(Ah ha hb hr hni' hns').2]
   ·cases hv
  ·cases hv
end Go.Ab
end
section
namespace Go.Ab
open Go.RowKit
variable {P:Program} {B:Nat} {ρ:gQ} {h:AH} {w:World}
theorem Aq {r:Nat} {o:Obj} (ho:w.heap[r]?=some o) (hc:∀c e f,o≠.cells c e f):(getObj r).run P w= .ok o w:=by
 simp only[getObj,Sem.run,ho]
theorem qU {r:Nat} {o o':Obj} (ho:w.heap[r]?=some o) (hc:∀c e f,o≠.cells c e f):(setObj r o').run P w= .ok () {w with heap:=w.heap.setIfInBounds r o'}:=by
 simp only[setObj,Sem.run,ho]
theorem oD {r:Nat} {es:Array MapEntry} {c:Nat} (ho:w.heap[r]?=some (.map es c)):(getObj r).run P w= .ok (.map es c) w:=
 Aq ho fun _ _ _ hh=>by cases hh
theorem vC {r:Nat} {es:Array MapEntry} {c:Nat} {o':Obj} (ho:w.heap[r]?=some (.map es c)):(setObj r o').run P w= .ok () {w with heap:=w.heap.setIfInBounds r o'}:=
 qU ho fun _ _ _ hh=>by cases hh
theorem F3 {t e:TypeId} (h:Ee P t=some e):∃key k,P.underlying t=some (.map key e)∧P.underlying key=some (.int k):=by
 unfold Ee at h
 grind
def Sp (ρ:gQ):Option (Nat×Value)→Option (Nat×Value)→Prop
 |none,y=>y=none
 |some (i,v),y=>∃v',aD ρ v v'∧y=some (i,v')
theorem D6 {kk k:IntKind} {n:Int}:∀(es:List (Value×Value×Nat)) (es':List MapEntry) (i:Nat) (r:Option (Nat×Value)),jG ρ es es'→tH k n es i=some r→
  ∃r',Instr.findNow (.int kk) (.int k n) es' i=some r'∧Sp ρ r r'
 |[],es',i,r,he,hf=>by
  simp only[jG] at he;subst he
  simp only[tH,Option.some.injEq] at hf;subst hf
  exact⟨none,rfl,rfl⟩
 |(key,v,b)::es,es',i,r,he,hf=>by
  obtain⟨k',v',t,h1,h2,h3,rfl⟩:=he
  cases key with
  |int j m=>
   simp only[aD] at h1;subst h1
   simp only[tH] at hf
   split at hf
   ·rename_i hk
    subst hk
    split at hf
    ·rename_i hn
     simp only[Option.some.injEq] at hf;subst hf
     refine⟨some (i,v'),?_,v',h2,rfl⟩
     simp[Instr.findNow,Instr.sameNow,hn]
    ·rename_i hn
     obtain⟨r',hr,hrel⟩:=D6 (kk:=kk) es t (i+1) r h3 hf
     refine⟨r',?_,hrel⟩
     have:(n==m)=false:=by simpa using hn
     simp[Instr.findNow,Instr.sameNow,this,hr]
   ·cases hf
  |_=>simp[tH] at hf
theorem mN {kt:TypeId} {kk k:IntKind} {n:Int} (hk:P.underlying kt=some (.int kk)) {es:List (Value×Value×Nat)} {es':List MapEntry} {r:Option (Nat×Value)} (he:jG ρ es es') (hf:tH k n es 0=some r):
  ∃r',(Instr.findKey kt (.int k n) es').run P w= .ok r' w∧Sp ρ r r':=by
 obtain⟨r',hr,hrel⟩:=D6 (kk:=kk) es es' 0 r he hf
 refine⟨r',?_,hrel⟩
 simp only[Instr.findKey,Sem.run_bind,run_underlying hk,Result.andThen_ok,hr,Sem.run_pure]
theorem jD {kt:TypeId} {kk k:IntKind} {n:Int} (hk:P.underlying kt=some (.int kk)) (e:Bool):(Instr.checkKey e 10000 kt (.int k n)).run P w= .ok () w:=by
 show(Instr.checkKey e (9999+1) kt (.int k n)).run P w= .ok () w
 rw[Instr.checkKey,Sem.run_bind,run_underlying hk]
 rfl
theorem ew {t:TypeId} {z:Value} (hz:zeroV P t=some z):(zeroValue t).run P w= .ok z w∧aD ρ z z:=by
 unfold zeroV at hz
 cases hi:P.info? t with
 |none=>simp[hi] at hz
 |some i=>
  cases hz0:i.zero with
  |none=>simp[hi,hz0] at hz
  |some z0=>
   simp only[hi,hz0,Option.bind_some] at hz
   split at hz
   ·rename_i hp
    cases hz
    exact⟨by simp[zeroValue,typeInfo,hi,hz0],gI _ hp⟩
   ·cases hz
theorem Xz (hi:Inv P B ρ h w) {x x':Value} {es:List (Value×Value×Nat)} (hx:aD ρ x x') (hm:Wi h x=some es):
  ∃es',jG ρ es es'∧((x'= .map none∧es'=[])∨∃r c,x'= .map (some r)∧w.heap[r]?=some (.map ⟨es'⟩ c)):=by
 unfold Wi at hm
 split at hm
 ·cases hm
  simp only[aD] at hx
  exact⟨[],rfl,.inl ⟨hx,rfl⟩⟩
 ·rename_i r
  split at hm
  ·rename_i es0 c hg
   cases hm
   simp only[aD] at hx
   obtain⟨b,s,hb,rfl⟩:=hx
   obtain⟨o',ho,es',hr,rfl⟩:=hi.pM _ _ hg b s hb
   grind
  ·cases hm
 ·cases hm
theorem Tz (hi:Inv P B ρ h w) {t:TypeId} {x x' ix ix' v:Value} {ok:Bool} (hx:aD ρ x x') (hix:aD ρ ix ix') (hv:sE P h t x ix ok=some v):
  ∃v',(Instr.lookup t x' ix' ok).run P w= .ok v' w∧aD ρ v v':=by
 unfold sE at hv
 split at hv
 ·rename_i e es k n hk hm
  obtain⟨key,kk,ht,hkt⟩:=F3 hk
  obtain⟨es',he,hx'⟩:=Xz hi hx hm
  simp only[aD] at hix;subst hix
  have fin:∀(r:Option (Nat×Value)) (r':Option (Nat×Value)),(Instr.findKey key (.int k n) es').run P w= .ok r' w→
    (Instr.lookup t x' (.int k n) ok).run P w=(match r' with
     |some (_,v)=>(.ok (if ok then .tuple #[v,.bool true] else v) w:Result Value)
     |none=>((zeroValue e).run P w).andThen fun z w=> .ok (if ok then .tuple #[z,.bool false] else z) w):=by
   intro r r' hf
   rcases hx' with⟨rfl,rfl⟩|⟨r,c,rfl,ho⟩
   ·unfold Instr.lookup
    simp only[Sem.run_bind,run_underlying ht,Result.andThen_ok,jD hkt,hf,Sem.run_pure]
    cases r' with
    |some p=>rfl
    |none=>simp_all
   ·unfold Instr.lookup
    simp only[Sem.run_bind,run_underlying ht,Result.andThen_ok,oD ho,jD hkt,hf,Sem.run_pure]
    cases r' with
    |some p=>rfl
    |none=>simp_all
  split at hv
  ·rename_i i v0 hf
   simp only[Option.some.injEq] at hv
   obtain⟨r',hr,v',hv',rfl⟩:=mN (w:=w) hkt he hf
   refine⟨_,fin none _ hr,?_⟩
   subst hv
   cases ok
   ·exact hv'
   ·show aD ρ (.tuple ⟨[v0,.bool true]⟩) (.tuple ⟨[v',.bool true]⟩)
    simp only[aD]
    exact⟨_,by simp only[kN];exact aT.cons hv' (aT.cons (by simp only[aD]) aT.nil),rfl⟩
  ·rename_i hf
   simp only[Option.map_eq_some_iff] at hv
   obtain⟨z,hz,hv⟩:=hv
   obtain⟨r',hr,hr'⟩:=mN (w:=w) hkt he hf
   simp only[Sp] at hr';subst hr'
   obtain⟨hzr,hzz⟩:=ew (w:=w) (ρ:=ρ) hz
   refine⟨_,by rw[fin none _ hr,hzr];rfl,?_⟩
   subst hv
   cases ok
   ·exact hzz
   ·show aD ρ (.tuple ⟨[z,.bool false]⟩) (.tuple ⟨[z,.bool false]⟩)
    simp only[aD]
    exact⟨_,by simp only[kN];exact aT.cons hzz (aT.cons (by simp only[aD]) aT.nil),rfl⟩
  ·cases hv
 ·cases hv
theorem jG.length:∀{es:List (Value×Value×Nat)} {es':List MapEntry},jG ρ es es'→es.length=es'.length
 |[],_,he=>by simp only[jG] at he;subst he;rfl
 |(_,_,_)::es,_,⟨_,_,t,_,_,h3,rfl⟩=>by simp[jG.length h3]
theorem jG.snoc:∀{es:List (Value×Value×Nat)} {es':List MapEntry} {k k' v v':Value} {c:Nat},jG ρ es es'→aD ρ k k'→aD ρ v v'→
  jG ρ (es++[(k,v,c)]) (es'++[{key:=k',val:=v',born:=c}])
 |[],_,k,k',v,v',c,he,hk,hv=>by simp only[jG] at he;subst he;exact⟨k',v',[],hk,hv,rfl,rfl⟩
 |(_,_,_)::es,_,k,k',v,v',c,⟨k1,v1,t,h1,h2,h3,rfl⟩,hk,hv=>⟨k1,v1,_,h1,h2,jG.snoc h3 hk hv,rfl⟩
theorem jG.erase:∀{es:List (Value×Value×Nat)} {es':List MapEntry} (i:Nat),jG ρ es es'→jG ρ (es.eraseIdx i) (es'.eraseIdx i)
 |[],_,i,he=>by simp only[jG] at he;subst he;simp[jG]
 |(_,_,_)::es,_,0,⟨_,_,t,h1,h2,h3,rfl⟩=>h3
 |(_,_,_)::es,_,i+1,⟨k1,v1,t,h1,h2,h3,rfl⟩=>⟨k1,v1,_,h1,h2,jG.erase i h3,rfl⟩
theorem jG.mod:∀{es:List (Value×Value×Nat)} {es':List MapEntry} (i:Nat) {k k' v v':Value},jG ρ es es'→aD ρ k k'→aD ρ v v'→
  jG ρ (es.modify i fun e=>(k,v,e.2.2)) (es'.modify i fun e=>{e with key:=k',val:=v'})
 |[],_,i,k,k',v,v',he,_,_=>by simp only[jG] at he;subst he;simp[jG]
 |(_,_,_)::es,_,0,k,k',v,v',⟨_,_,t,h1,h2,h3,rfl⟩,hk,hv=>⟨k',v',t,hk,hv,h3,rfl⟩
 |(_,_,_)::es,_,i+1,k,k',v,v',⟨k1,v1,t,h1,h2,h3,rfl⟩,hk,hv=>⟨k1,v1,_,h1,h2,jG.mod i h3 hk hv,rfl⟩
theorem Fh {kk k:IntKind} {n:Int}:∀(es':List MapEntry) (i:Nat) {j:Nat} {v:Value},Instr.findNow (.int kk) (.int k n) es' i=some (some (j,v))→i≤j∧∃e,es'[j - i]?=some e∧e.key= .int k n
 |[],i,j,v,h=>by simp[Instr.findNow] at h
 |e::es,i,j,v,h=>by
  simp only[Instr.findNow] at h
  split at h
  ·rename_i hs
   simp only[Option.some.injEq,Prod.mk.injEq] at h
   obtain⟨rfl,rfl⟩:=h
   refine⟨Nat.le_refl _,e,by simp,?_⟩
   cases hk:e.key with
   |int j m=>
    rw[hk] at hs
    simp only[Instr.sameNow] at hs
    grind
   |_=>rw[hk] at hs;simp[Instr.sameNow] at hs
  ·obtain⟨h1,e',h2,h3⟩:=Fh es (i+1) h
   grind
  ·cases h
theorem Io (hi:Inv P B ρ h w) {argTypes:Array TypeId} {ty t k e:TypeId} {x x':Value} {es:List (Value×Value×Nat)} (h0:argTypes[0]?=some t) (hd:P.underlying t=some (.map k e)) (hx:aD ρ x x') (hm:Wi h x=some es):
  (Builtin.len_ argTypes ty #[x']).run P w= .ok (goInt es.length) w:=by
 obtain⟨es',he,⟨rfl,rfl⟩|⟨r,c,rfl,ho⟩⟩:=Xz hi hx hm
 ·have:=he.length
  simp[Builtin.len_,h0,run_underlying hd,this]
 ·have:=he.length
  simp[Builtin.len_,h0,run_underlying hd,oD ho,this]
theorem Vr (hi:Inv P B ρ h w) {t:TypeId} {m m' k k' x x':Value} {h2:AH} (hm:aD ρ m m') (hk:aD ρ k k') (hx:aD ρ x x') (hv:zO P h t m k x=some h2):
  ∃w',(Instr.mapUpdate t m' k' x').run P w= .ok () w'∧kM P B ρ h w ρ h2 w':=by
 unfold zO at hv
 split at hv
 ·rename_i e r kd n hkey
  obtain⟨key,kk,ht,hkt⟩:=F3 hkey
  split at hv
  ·cases hv
  ·rename_i hbase
   split at hv
   ·rename_i es clock hg
    simp only[Option.map_eq_some_iff] at hv
    obtain⟨o,ho,rfl⟩:=hv
    simp only[aD] at hm hk
    subst hk
    obtain⟨b,s,hb,rfl⟩:=hm
    obtain⟨o',ho',es',he,rfl⟩:=hi.pM _ _ hg b s hb
    unfold uy at ho
    split at ho
    ·rename_i i v0 hf
     simp only[Option.some.injEq] at ho;subst ho
     obtain⟨r',hr,v',_,rfl⟩:=mN (w:=w) hkt he hf
     obtain⟨r2,hr2,v2,_,rfl⟩:=D6 (kk:=kk) es es' 0 _ he hf
     obtain⟨_,e',he',hek⟩:=Fh es' 0 hr2
     simp only[Nat.sub_zero] at he'
     have hstay:(Instr.keyThatStays (.int kd n) (.int kd n)).run P w= .ok (.int kd n) w:=by
      simp[Instr.keyThatStays,Instr.sameBits]
     refine⟨{w with heap:=w.heap.setIfInBounds b (.map ((⟨es'⟩:Array MapEntry).modify i fun e=>{e with key:= .int kd n,val:=x'}) clock)},?_,?_⟩
     ·unfold Instr.mapUpdate
      simp only[Sem.run_bind,run_underlying ht,Result.andThen_ok,oD ho',jD hkt,hr]
      rw[show((⟨es'⟩:Array MapEntry)[i]?).map (·.key)=some (.int kd n) by grind]
      simp only[Option.getD_some,hstay,Result.andThen_ok,vC ho']
     ·refine vP hi (by omega) hg hb ?_ rfl rfl rfl rfl
      refine⟨_,jG.mod i he (k':= .int kd n) (v':=x') (by simp only[aD]) hx,?_⟩
      grind
    ·rename_i hf
     simp only[Option.some.injEq] at ho;subst ho
     obtain⟨r',hr,hr'⟩:=mN (w:=w) hkt he hf
     simp only[Sp] at hr';subst hr'
     refine⟨{w with heap:=w.heap.setIfInBounds b (.map ((⟨es'⟩:Array MapEntry).push {key:= .int kd n,val:=x',born:=clock}) (clock+1))},?_,?_⟩
     ·unfold Instr.mapUpdate
      simp only[Sem.run_bind,run_underlying ht,Result.andThen_ok,oD ho',jD hkt,hr,vC ho']
     ·refine vP hi (by omega) hg hb ?_ rfl rfl rfl rfl
      refine⟨_,jG.snoc he (k':= .int kd n) (v':=x') (by simp only[aD]) hx,?_⟩
      simp
    ·cases ho
   ·cases hv
 ·cases hv
theorem Wn (hi:Inv P B ρ h w) {argTypes:Array TypeId} {ty t:TypeId} {m m' k k':Value} {h2:AH} (h0:argTypes[0]?=some t) (hm:aD ρ m m') (hk:aD ρ k k') (hv:B1 P h t m k=some h2):
  ∃w',(Builtin.delete_ argTypes ty ⟨[m',k']⟩).run P w= .ok (.tuple #[]) w'∧kM P B ρ h w ρ h2 w':=by
 unfold B1 at hv
 split at hv
 ·rename_i e kd n hkey
  obtain⟨key,kk,ht,hkt⟩:=F3 hkey
  cases hv
  simp only[aD] at hm hk
  subst hm hk
  exact⟨w,by simp[Builtin.delete_,h0,run_underlying ht,jD hkt],kM.refl hi⟩
 ·rename_i e r kd n hkey
  obtain⟨key,kk,ht,hkt⟩:=F3 hkey
  split at hv
  ·cases hv
  ·rename_i hbase
   split at hv
   ·rename_i es clock hg
    simp only[aD] at hm hk
    subst hk
    obtain⟨b,s,hb,rfl⟩:=hm
    obtain⟨o',ho',es',he,rfl⟩:=hi.pM _ _ hg b s hb
    split at hv
    ·rename_i i v0 hf
     simp only[Option.some.injEq] at hv;subst hv
     obtain⟨r',hr,v',_,rfl⟩:=mN (w:=w) hkt he hf
     refine⟨{w with heap:=w.heap.setIfInBounds b (.map ((⟨es'⟩:Array MapEntry).eraseIdxIfInBounds i) clock)},?_,?_⟩
     ·simp[Builtin.delete_,h0,run_underlying ht,jD hkt,oD ho',hr,vC ho']
     ·refine vP hi (by omega) hg hb ?_ rfl rfl rfl rfl
      refine⟨_,jG.erase i he,?_⟩
      grind
    ·rename_i hf
     simp only[Option.some.injEq] at hv;subst hv
     obtain⟨r',hr,hr'⟩:=mN (w:=w) hkt he hf
     simp only[Sp] at hr';subst hr'
     refine⟨{w with heap:=w.heap.setIfInBounds b (.map ⟨es'⟩ clock)},?_,?_⟩
     ·simp[Builtin.delete_,h0,run_underlying ht,jD hkt,oD ho',hr,vC ho']
     ·exact vP hi (by omega) hg hb ⟨_,he,rfl⟩ rfl rfl rfl rfl
    ·cases hv
   ·cases hv
 ·cases hv
end Go.Ab
end
section
namespace Go.Ab
open Go.RowKit
variable {P:Program} {B:Nat} {ρ:gQ} {h:AH} {w:World}
theorem kN.map {α:Type} {f g:α→Value} (hfg:∀x,aD ρ (f x) (g x)) (a:Array α):kN ρ (a.map f) (a.map g):=by
 rw[hZ];simp only[Array.toList_map];exact aT.Ar hfg _
theorem Tm {x x' v:Value} (hx:aD ρ x x') (hv:strOf h x=some v):∃a n c,x'= .slice a n c:=by
 unfold strOf at hv
 split at hv
 ·simp only[aD] at hx;grind
 ·rename_i a n c
  obtain⟨_,_,sp⟩:=a
  cases sp with
  |none=>simp only[aD] at hx;grind
  |some _=>simp only[aD] at hx;grind
 ·cases hv
theorem Ib {f:Value→ByteArray→Sem (ForInStep ByteArray)} (hf:∀n s,f (.int .u8 n) s=pure (.yield (s.push (UInt8.ofNat n.toNat)))):∀(l l':List Value) (bs:List UInt8) (s:ByteArray),aT ρ l l'→xS l=some bs→
  (forIn (m:=Sem) l' s f).run P w= .ok ⟨⟨s.data.toList++bs⟩⟩ w
 |[],l',bs,s,hl,hb=>by
  simp only[aT] at hl;subst hl
  simp only[xS,Option.some.injEq] at hb;subst hb
  simp
 |v::l,l',bs,s,hl,hb=>by
  simp only[aT] at hl
  obtain⟨v',t',h1,h2,rfl⟩:=hl
  simp only[xS] at hb
  split at hb
  ·rename_i b r hb1 hb2
   cases hb
   unfold byteOf at hb1
   split at hb1
   ·cases hb1
    simp only[aD] at h1;subst h1
    simp only[List.forIn_cons,Sem.run_bind,hf,Sem.run_pure,Result.andThen_ok]
    rw[Ib hf l t' r _ h2 hb2]
    simp
   ·cases hb1
  ·cases hb
theorem ey (hi:Inv P B ρ h w) {x x' v:Value} (hx:aD ρ x x') (hv:strOf h x=some v):∃v',(Conv.bytesToString x').run P w= .ok v' w∧aD ρ v v':=by
 unfold strOf at hv
 split at hv
 ·cases hv;simp only[aD] at hx;subst hx;exact⟨.string .empty,by simp[Conv.bytesToString],by simp only[aD]⟩
 ·rename_i a n c
  split at hv
  ·rename_i hn
   subst hn
   cases hv
   refine⟨.string .empty,?_,by simp only[aD]⟩
   obtain⟨_,_,sp⟩:=a
   cases sp with
   |none=>simp only[aD] at hx;obtain⟨_,_,_,_,_,_,rfl⟩:=hx;simp[Conv.bytesToString,loadCells,loadCellsFrom]
   |some _=>simp only[aD] at hx;obtain⟨_,_,_,_,_,_,rfl⟩:=hx;simp[Conv.bytesToString,loadCells,loadCellsFrom]
  ·simp only[Option.map_eq_some_iff,Option.bind_eq_some_iff] at hv
   obtain⟨bs,⟨l,hl,hb⟩,rfl⟩:=hv
   obtain⟨i,o,sp⟩:=a
   cases sp with
   |some _=>simp[cI] at hl
   |none=>
    simp only[aD] at hx;obtain⟨b,s,c',hr,_,_,rfl⟩:=hx
    obtain⟨l',hrun,hrel,_,_⟩:=oW hi (a:=⟨i,o,none⟩) hr hl
    refine⟨.string ⟨⟨bs⟩⟩,?_,by simp only[aD]⟩
    simp only[Conv.bytesToString,Sem.run_bind,hrun,Result.andThen_ok]
    rw[←Array.forIn_toList]
    simp only[Sem.run_pure]
    rw[Ib (P:=P) (w:=w) (fun n s=>by rfl) l l' bs .empty hrel hb]
    rfl
 ·cases hv
set_option maxHeartbeats 1000000 in
theorem E8 (hi:Inv P B ρ h w) {ev ev':Operand→Value} (hev:∀x,aD ρ (ev x) (ev' x)) (o:Oper) {v:Value} (hv:bM P ev h o.op=some v):
  ∃v',(execOp ev' o).run P w= .ok (.value v') w∧aD ρ v v':=by
 obtain⟨dst,op,ty,pos,after,guard⟩:=o
 simp only at hv
 cases op with
 |move x=>simp only[bM,Option.some.injEq] at hv;subst hv;exact⟨_,rfl,hev x⟩
 |assign x=>simp only[bM,Option.some.injEq] at hv;subst hv;exact⟨_,rfl,hev x⟩
 |pick c a b=>
  simp only[bM] at hv
  split at hv
  ·rename_i t hc
   have h1:=hev c
   rw[hc] at h1
   simp only[aD] at h1
   simp only[Option.some.injEq] at hv;subst hv
   refine⟨if t then ev' a else ev' b,?_,by cases t<;>simp[hev]⟩
   simp[execOp,h1,asBool]
  ·cases hv
 |build t parts=>
  simp only[bM] at hv
  obtain⟨v',hr,hrel⟩:=Qz (w:=w) (parts':=parts.map fun p=>(p.1,ev' p.2)) (by
   simp only[Array.toList_map];exact J9.map (f:=fun p:Nat×Operand=>ev p.2) (g:=fun p=>ev' p.2) (k:=fun p=>p.1) (fun p=>hev p.2) _) hv
  refine⟨v',?_,hrel⟩
  show(do pure (Next.value (←Instr.build t (parts.map fun(i,x)=>(i,ev' x)))):Sem Next).run P w=_
  simp_all
 |load t a=>
  simp only[bM] at hv
  split at hv
  ·rename_i a0 ha
   have h1:=hev a
   rw[ha] at h1
   obtain⟨v',hr,hrel⟩:=Jr hi h1 hv
   exact⟨v',by simp[execOp,hr],hrel⟩
  ·cases hv
 |nilCheck x=>
  simp only[bM] at hv
  split at hv
  ·rename_i a ha
   have h1:=hev x
   rw[ha] at h1
   simp only[Option.some.injEq] at hv;subst hv
   have h2:=h1
   simp only[aD] at h1
   obtain⟨b,s,hb,he⟩:=h1
   exact⟨ev' x,by simp[execOp,he],h2⟩
  ·rename_i f a b ha
   have h1:=hev x
   rw[ha] at h1
   simp only[Option.some.injEq] at hv;subst hv
   have h2:=h1
   simp only[aD,Cm] at h1
   obtain⟨_,_,_,rfl,_,_,he⟩:=h1
   exact⟨ev' x,by simp[execOp,he],h2⟩
  ·rename_i f a b ha
   have h1:=hev x
   rw[ha] at h1
   simp only[Option.some.injEq] at hv;subst hv
   have h2:=h1
   simp only[aD,Cm] at h1
   obtain⟨_,_,_,⟨_,_,_,rfl⟩,_,_,he⟩:=h1
   exact⟨ev' x,by simp[execOp,he],h2⟩
  ·cases hv
 |binOp op t x y yt=>
  simp only[bM] at hv
  obtain⟨v',hr,hrel⟩:=dt (P:=P) (w:=w) (hev x) (hev y) hv
  refine⟨v',?_,hrel⟩
  show(do pure (Next.value (←(do eqGuard op t x y (ev' x) (ev' y);binOp op t (ev' x) (ev' y)))):Sem Next).run P w=_
  rw[Sem.run_bind,hr]
  rfl
 |unOp op t x=>
  simp only[bM] at hv
  split at hv
  ·rename_i k n hx
   have h1:=hev x
   rw[hx] at h1
   simp only[aD] at h1
   simp only[Option.some.injEq] at hv;subst hv
   exact⟨.int k (k.wrap (0 - n)),by simp[execOp,h1,Op.unary,Op.intArith],by simp only[aD]⟩
  ·rename_i b hx
   have h1:=hev x
   rw[hx] at h1
   simp only[aD] at h1
   simp only[Option.some.injEq] at hv;subst hv
   exact⟨.bool !b,by simp[execOp,h1,Op.unary],by simp only[aD]⟩
  ·cases hv
 |convert s d x=>
  simp only[bM] at hv
  split at hv
  ·rename_i ds k _ n hs hd hx
   have h1:=hev x
   rw[hx] at h1
   simp only[aD] at h1
   simp only[Option.some.injEq] at hv;subst hv
   exact⟨.int k (k.wrap n),by simp[execOp,h1,convert,run_underlying hs,run_underlying hd,Conv.intToInt],by simp only[aD]⟩
  ·rename_i z hs hd hx
   have h1:=hev x
   rw[hx] at h1
   simp only[aD] at h1
   simp only[Option.some.injEq] at hv;subst hv
   exact⟨.string z,by simp[execOp,h1,convert,run_underlying hs,run_underlying hd],by simp only[aD]⟩
  ·rename_i e hs hd
   split at hv
   ·rename_i he
    obtain⟨v',hr,hrel⟩:=ey hi (hev x) hv
    refine⟨v',?_,hrel⟩
    have hcv:(convert s d (ev' x)).run P w= .ok v' w:=by
     obtain⟨a,n,c,hx⟩:=Tm (hev x) hv
     rw[hx] at hr ⊢
     simp[convert,run_underlying hs,run_underlying hd,run_underlying he,hr]
    simp[execOp,hcv]
   ·cases hv
  ·cases hv
 |makeInterface t x=>
  simp only[bM] at hv
  split at hv
  ·cases hv
  ·rename_i d hd hni
   simp only[Option.some.injEq] at hv;subst hv
   refine⟨.iface t (ev' x),?_,by simp only[aD];exact⟨_,hev x,rfl⟩⟩
   have:P.concrete t=true:=by
    unfold Program.concrete
    rw[hni]
    cases d<;>grind
   simp[execOp,run_makeInterface w t (ev' x) this]
  ·cases hv
 |makeFunc fn first captured=>
  simp only[bM] at hv
  split at hv
  ·rename_i f
   simp only[Option.some.injEq] at hv;subst hv
   refine⟨.func (.func f) (first.map ev') (captured.map ev'),by simp[execOp,Instr.makeFunc],?_⟩
   simp only[aD,Cm]
   exact⟨_,_,_,rfl,kN.map hev _,kN.map hev _,rfl⟩
  ·cases hv
 |slice t x lo hi_ mx=>
  simp only[bM] at hv
  obtain⟨v',hr,hrel⟩:=Qu hi (hev x) (xH.map hev lo) (xH.map hev hi_) (xH.map hev mx) hv
  exact⟨v',by simp[execOp,hr],hrel⟩
 |fieldAddr s x f=>
  simp only[bM] at hv
  split at hv
  ·rename_i fs a hd hx
   have h1:=hev x
   rw[hx] at h1
   simp only[aD] at h1
   obtain⟨b,sp,hb,he⟩:=h1
   split at hv
   ·rename_i fd hf
    split at hv
    ·cases hv
    ·rename_i hn
     simp only[Option.some.injEq] at hv;subst hv
     obtain⟨i,hinf,_⟩:=Kl hn
     refine⟨.pointer (some (Addr.add ⟨b,a.off+sp.2,a.spot⟩ fd.offset)),?_,?_⟩
     ·simp[execOp,he,Instr.fieldAt,run_underlying hd,hf,Instr.sureAddr,fieldPlace,fH hinf,hn]
     ·simp only[aD]
      refine⟨b,sp,?_,?_⟩
      ·unfold Addr.add;split<;>exact hb
      ·unfold Addr.add;grind
   ·cases hv
  ·cases hv
 |field t x f=>
  simp only[bM] at hv
  split at hv
  ·rename_i fs cs hd hx
   have h1:=hev x
   rw[hx] at h1
   simp only[aD] at h1
   obtain⟨cs',hc,he⟩:=h1
   split at hv
   ·rename_i fd hf
    obtain⟨v',hr,hrel⟩:=tN (P:=P) (w:=w) hv (hZ.1 hc)
    exact⟨v',by simp[execOp,he,Instr.field,run_underlying hd,hf,asAgg,hr],hrel⟩
   ·cases hv
  ·cases hv
 |indexAddr t x i=>
  simp only[bM] at hv
  split at hv
  ·rename_i n e a k j hd hx hix
   have h1:=hev x
   have h2:=hev i
   rw[hx] at h1
   rw[hix] at h2
   simp only[aD] at h1 h2
   obtain⟨b,sp,hb,he⟩:=h1
   split at hv
   ·rename_i hc
    simp only[Option.some.injEq] at hv;subst hv
    obtain⟨inf,hinf⟩:=Option.isSome_iff_exists.1 hc.2.2
    refine⟨.pointer (some (Addr.add ⟨b,a.off+sp.2,a.spot⟩ (j.toNat*P.cellsOf e))),?_,?_⟩
    ·simp[execOp,he,h2,Instr.indexAt,asIntOf,run_underlying hd,Instr.sureAddr,hc.1,hc.2.1,fH hinf]
    ·simp only[aD]
     refine⟨b,sp,?_,?_⟩
     ·unfold Addr.add;split<;>exact hb
     ·unfold Addr.add;grind
   ·cases hv
  ·rename_i e a n c k j hd hx hix
   have h1:=hev x
   have h2:=hev i
   rw[hx] at h1
   rw[hix] at h2
   split at hv
   ·rename_i hc
    obtain⟨ab,ao,asp⟩:=a
    obtain rfl:asp=none:=hc.2.2.2
    simp only[aD] at h1 h2
    obtain⟨b,sp,c',hb,_,_,he⟩:=h1
    simp only[Option.some.injEq] at hv;subst hv
    obtain⟨inf,hinf⟩:=Option.isSome_iff_exists.1 hc.2.2.1
    refine⟨.pointer (some (Addr.add ⟨b,ao+sp.2,none⟩ (j.toNat*P.cellsOf e))),?_,?_⟩
    ·simp[execOp,he,h2,Instr.indexAt,asIntOf,run_underlying hd,hc.1,hc.2.1,fH hinf]
    ·rw[cX,cX]
     simp only[aD]
     grind
   ·cases hv
  ·cases hv
 |index t x i=>
  simp only[bM] at hv
  split at hv
  ·rename_i n e cs k j hd hx hix
   have h1:=hev x
   have h2:=hev i
   rw[hx] at h1
   rw[hix] at h2
   simp only[aD] at h1 h2
   obtain⟨cs',hc',he⟩:=h1
   split at hv
   ·rename_i hc
    obtain⟨inf,hinf⟩:=Option.isSome_iff_exists.1 hc.2.2
    obtain⟨v',hr,hrel⟩:=tN (P:=P) (w:=w) hv (hZ.1 hc')
    exact⟨v',by simp[execOp,he,h2,Instr.index,asIntOf,run_underlying hd,hc.1,hc.2.1,fH hinf,hr],hrel⟩
   ·cases hv
  ·rename_i s k j hd hx hix
   have h1:=hev x
   have h2:=hev i
   rw[hx] at h1
   rw[hix] at h2
   simp only[aD] at h1 h2
   split at hv
   ·rename_i hc
    simp only[Option.map_eq_some_iff] at hv
    obtain⟨u,hu,rfl⟩:=hv
    exact⟨.int .u8 u.toNat,by simp[execOp,h1,h2,Instr.index,asIntOf,run_underlying hd,hc,hu],by simp only[aD]⟩
   ·cases hv
  ·cases hv
 |extract t i=>
  simp only[bM] at hv
  split at hv
  ·rename_i vs ht
   have h1:=hev t
   rw[ht] at h1
   simp only[aD] at h1
   obtain⟨vs',hc,he⟩:=h1
   obtain⟨v',hv',hrel⟩:=(hZ.1 hc).get hv
   exact⟨v',by simp only[Array.getElem?_toList] at hv';simp[execOp,he,Instr.extract,hv'],hrel⟩
  ·cases hv
 |lookup t x ix ok=>
  simp only[bM] at hv
  obtain⟨v',hr,hrel⟩:=Tz hi (hev x) (hev ix) hv
  exact⟨v',by simp[execOp,hr],hrel⟩
 |_=>simp only[bM] at hv;cases hv
theorem vM (f:Nat→Value):(Array.range 0).map f= #[]:=by grind
theorem uM {z:List Value} {size:Nat} (hz:z.length=size) (n:Nat):((Array.range (n*size)).map fun i=>(⟨z⟩:Array Value)[i % (⟨z⟩:Array Value).size]!)=⟨eB z n⟩:=by
 apply Array.ext'
 simp only[Array.toList_map,Array.toList_range]
 show(List.range (n*size)).map (fun i=>(⟨z⟩:Array Value)[i % z.length]!)=eB z n
 subst hz
 induction n with
 |zero=>simp[eB]
 |succ n ih=>
  rw[Nat.succ_mul,List.range_add,List.map_append,ih]
  unfold eB
  rw[List.replicate_succ',List.flatten_append]
  congr 1
  simp only[List.flatten_cons,List.flatten_nil,List.append_nil,List.map_map]
  apply List.ext_getElem
  ·simp
  ·intro j h1 h2
   simp at h1 h2
   simp only[List.getElem_map,List.getElem_range,Function.comp]
   have hm:(n*z.length+j) % z.length=j:=by rw[Nat.mul_comm,Nat.mul_add_mod,Nat.mod_eq_of_lt (by omega)]
   grind
theorem Am {z:List Value} (hz:aT ρ z z) (n:Nat):aT ρ (eB z n) (eB z n):=by
 unfold eB
 induction n with
 |zero=>exact aT.nil
 |succ n ih=>rw[List.replicate_succ,List.flatten_cons];exact hz.append ih
theorem Fg {ev ev':Operand→Value} (hev:∀x,aD ρ (ev x) (ev' x)) (o:Oper) {b:lG} {f:Nat→Value} (hv:dW P ev o.op=some (b,f)):
  ∃(o':Obj) (g:Nat→Value),rZ P ρ (0,0) b o'∧(execOp ev' o).run P w= .ok (.value (g w.heap.size)) (w.alloc o')∧∀(ρ':gQ) i s,s.2=0→ρ' i=some (w.heap.size,s)→aD ρ' (f i) (g w.heap.size):=by
 obtain⟨dst,op,ty,pos,after,guard⟩:=o
 simp only at hv
 cases op with
 |alloc e=>
  simp only[dW,Option.map_eq_some_iff] at hv
  obtain⟨z,hz,hv⟩:=hv
  cases hv
  obtain⟨i,zv,hi,_,hzr,hzc,hzl,hzz⟩:=rJ (w:=w) hz
  refine⟨.cells zv.cells e,fun n=> .pointer (some ⟨n,0,none⟩),⟨zv.cells,rfl,?_,?_,fun _=>⟨rfl,rfl⟩⟩,?_,?_⟩
  ·simp only[List.drop_zero];rw[hzc,List.take_of_length_le (Nat.le_refl _)];exact hzz ρ
  ·rw[←hzc];simp
  ·simp[execOp,Instr.alloc,hzr,newVar,newRow]
  ·intro ρ' i s hs hr;simp only[aD];exact⟨_,_,hr,by rw[hs]⟩
 |box e x=>
  simp only[dW,Option.map_eq_some_iff] at hv
  obtain⟨l,hl,hv⟩:=hv
  cases hv
  unfold iB at hl
  split at hl
  ·cases hl
  ·rename_i ht
   cases hl
   have hc:=(hev x).cells (by simpa using ht)
   have hcl:=hc.length
   refine⟨.cells (ev' x).cells e,fun n=> .pointer (some ⟨n,0,none⟩),⟨_,rfl,?_,?_,fun _=>⟨rfl,rfl⟩⟩,?_,?_⟩
   ·grind
   ·grind
   ·simp[execOp,Instr.box,newVar,newRow]
   ·intro ρ' i s hs hr;simp only[aD];exact⟨_,_,hr,by rw[hs]⟩
 |buildSlice t len parts=>
  simp only[dW] at hv
  split at hv
  ·rename_i e hd
   split at hv
   ·rename_i z hz
    obtain⟨i,zv,hi,_,hzr,hzc,hzl,hzz⟩:=rJ (w:=w) hz
    split at hv
    ·rename_i hle
     simp only[Option.map_eq_some_iff] at hv
     obtain⟨l,hl,hv⟩:=hv
     cases hv
     obtain⟨r',hr',hrel⟩:=Cd _ (parts.map fun p=>(p.1,ev' p.2)).toList _ _ l (by
      simp only[Array.toList_map];exact J9.map (f:=fun p:Nat×Operand=>ev p.2) (g:=fun p=>ev' p.2) (k:=fun p=>p.1) (fun p=>hev p.2) _) (Am (hzz ρ) len) hl
     have hrl:=hrel.length
     have hz':zv.cells=⟨z⟩:=by rw[←hzc]
     refine⟨.cells ⟨r'⟩ e,fun n=> .slice (some ⟨n,0,none⟩) len len,⟨_,rfl,?_,?_,fun _=>⟨rfl,rfl⟩⟩,?_,?_⟩
     ·grind
     ·show 0+l.length+0*_≤r'.length;omega
     ·have hle':¬len*P.cellsOf e>2^24:=by omega
      have hr2:Instr.fill (fun i=>some (i*P.cellsOf e,P.cellsOf e)) ⟨eB z len⟩ (parts.map fun(x:Nat×Operand)=>(x.1,ev' x.2)).toList=some ⟨r'⟩:=hr'
      show(do pure (Next.value (←Instr.buildSlice t len (parts.map fun(i,x)=>(i,ev' x)))):Sem Next).run P w=_
      simp only[Instr.buildSlice,Sem.run_bind,run_underlying hd,Result.andThen_ok,fH hi,hle',if_false]
      have hc:=uM hzl len
      by_cases h0:len*P.cellsOf e=0
      ·have hnil:(⟨eB z len⟩:Array Value)= #[]:=by rw[←hc,h0,vM]
       rw[hnil] at hr2
       simp only[h0,if_true,Sem.run_bind,Sem.run_pure,Result.andThen_ok]
       rw[vM,hr2]
       simp[newRow]
      ·simp only[h0,if_false,Sem.run_bind,hzr,Sem.run_pure,Result.andThen_ok,hz']
       rw[hc,hr2]
       simp[newRow]
     ·intro ρ' i s hs hr;simp only[aD];exact⟨_,_,_,hr,Nat.le_refl _,Nat.le_add_right _ _,by rw[hs]⟩
    ·cases hv
   ·cases hv
  ·cases hv
 |makeSlice t l c=>
  simp only[dW] at hv
  split at hv
  ·rename_i e k1 ll k2 cc hd hl hc
   split at hv
   ·rename_i z hz
    obtain⟨i,zv,hi,_,hzr,hzc,hzl,hzz⟩:=rJ (w:=w) hz
    split at hv
    ·rename_i hcond
     obtain⟨h0,h1,h2,h3⟩:=hcond
     simp only[Option.some.injEq,Prod.mk.injEq] at hv
     obtain⟨rfl,rfl⟩:=hv
     have hl':=hev l
     have hc':=hev c
     rw[hl] at hl'
     rw[hc] at hc'
     simp only[aD] at hl' hc'
     have hz':zv.cells=⟨z⟩:=by rw[←hzc]
     have hb:i.bytes=P.bytesOf e:=by simp[Program.bytesOf,hi]
     refine⟨.cells ⟨eB z cc.toNat⟩ e,fun n=> .slice (some ⟨n,0,none⟩) ll.toNat cc.toNat,⟨_,rfl,?_,?_,fun _=>⟨rfl,rfl⟩⟩,?_,?_⟩
     ·simp only[List.drop_zero];rw[List.take_of_length_le (Nat.le_refl _)];exact Am (hzz ρ) _
     ·show 0+(eB z cc.toNat).length+0*_≤(eB z cc.toNat).length;omega
     ·have hwl:IntKind.i64.wrap ll=ll:=IntWalk.i64_in _ ⟨by omega,by omega⟩
      have hwc:IntKind.i64.wrap cc=cc:=IntWalk.i64_in _ ⟨by omega,by omega⟩
      have t1:(typeInfo e).run P w= .ok i w:=by simp[typeInfo,hi]
      have hno:((decide (cc<0)||decide ((i.bytes:Int)*cc>2^48))||decide (ll<0)||decide (ll>cc))=false:=by
       grind
      simp only[execOp,hl',hc',Instr.makeSlice,Sem.run_bind,run_underlying hd,Result.andThen_ok,asInt,asIntOf,Sem.run_pure,t1,hwl,hwc,hno,Bool.false_eq_true,if_false,run_askRoom,fH hi]
      have hcz:=uM hzl cc.toNat
      by_cases h0:cc.toNat*P.cellsOf e=0
      ·have hnil:(⟨eB z cc.toNat⟩:Array Value)= #[]:=by rw[←hcz,h0,vM]
       rw[hnil]
       simp only[h0,if_true,Sem.run_bind,Sem.run_pure,Result.andThen_ok]
       rw[vM]
       simp[newRow]
      ·simp only[h0,if_false,Sem.run_bind,hzr,Sem.run_pure,Result.andThen_ok,hz']
       rw[hcz]
       simp[newRow]
     ·intro ρ' i s hs hr;simp only[aD];exact⟨_,_,_,hr,Nat.le_refl _,Nat.le_add_right _ _,by rw[hs]⟩
    ·cases hv
   ·cases hv
  ·cases hv
 |makeMap t r=>
  cases r with
  |none=>
   simp only[dW,Option.some.injEq,Prod.mk.injEq] at hv
   obtain⟨rfl,rfl⟩:=hv
   refine⟨.map #[] 0,fun n=> .map (some n),⟨[],rfl,rfl⟩,rfl,?_⟩
   intro ρ' i s hs hr;simp only[aD];grind
  |some x=>
   simp only[dW] at hv
   split at hv
   ·rename_i key elem k n hd hx
    simp only[Option.some.injEq,Prod.mk.injEq] at hv
    obtain⟨rfl,rfl⟩:=hv
    have h1:=hev x
    rw[hx] at h1
    simp only[aD] at h1
    refine⟨.map #[] 0,fun n=> .map (some n),⟨[],rfl,rfl⟩,by simp[execOp,Instr.makeMap,h1,run_underlying hd,asInt,asIntOf],?_⟩
    intro ρ' i s hs hr;simp only[aD];grind
   ·cases hv
 |_=>simp only[dW] at hv;cases hv
end Go.Ab
end
