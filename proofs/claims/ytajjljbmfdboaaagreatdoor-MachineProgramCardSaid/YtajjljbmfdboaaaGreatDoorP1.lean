/- A part of the proof. -/
import Derived.WalkKit
import Derived.AtR
import Derived.ChangeKeysEq
section
namespace Go.Ab
noncomputable section
def top:Value:= .chan none
def vP:Value→Bool
 |.chan _=>true
 |_=>false
def eE:Value→Bool
 |.agg _|.tuple _|.chan _=>false
 |_=>true
mutual
def dE:Value→Bool
 |.bool _|.int _ _|.string _|.pointer none|.slice none _ _|.map none|.nilFunc|.nilIface=>true
 |.iface _ v=>dE v
 |.agg cs=>sO cs
 |.tuple cs=>sO cs
 |_=>false
def sO:Array Value→Bool
 |⟨l⟩=>jJ l
def jJ:List Value→Bool
 |[]=>true
 |v::l=>dE v&&jJ l
end
abbrev gP:=Nat→Option (Nat×(Nat×Nat))
def B3 (ρ:gP):Fn→Fn→Prop
 |.yield l,g=>∃b s,ρ l=some (b,s)∧g= .yield b
 |f,g=>g=f
mutual
def aD (ρ:gP):Value→Value→Prop
 |.bool b,v'=>v'= .bool b
 |.int k n,v'=>v'= .int k n
 |.float k n,v'=>v'= .float k n
 |.complex k n m,v'=>v'= .complex k n m
 |.string s,v'=>v'= .string s
 |.pointer none,v'=>v'= .pointer none
 |.pointer (some a),v'=>∃b s,ρ a.block=some (b,s)∧v'= .pointer (some ⟨b,a.off+s.2,a.spot⟩)
 |.slice none l c,v'=>v'= .slice none l c
 |.slice (some ⟨i,o,some x⟩) l c,v'=>l=0∧c=0∧∃a' c',(x=1→c'=0)∧(x=2→∃b s,ρ i=some (b,s)∧c'≤s.1∧(0<c'→a'=⟨b,o+s.2,none⟩))∧v'= .slice (some a') 0 c'
 |.slice (some ⟨i,o,none⟩) l c,v'=>∃b s c',ρ i=some (b,s)∧c≤c'∧c'≤c+s.1∧v'= .slice (some ⟨b,o+s.2,none⟩) l c'
 |.map none,v'=>v'= .map none
 |.map (some r),v'=>∃b s,ρ r=some (b,s)∧v'= .map (some b)
 |.chan none,_=>True
 |.chan (some _),_=>False
 |.func fn fs cs,v'=>∃fn' fs' cs',B3 ρ fn fn'∧jV ρ fs fs'∧jV ρ cs cs'∧v'= .func fn' fs' cs'
 |.nilFunc,v'=>v'= .nilFunc
 |.iface t v,v'=>∃u,aD ρ v u∧v'= .iface t u
 |.nilIface,v'=>v'= .nilIface
 |.agg cs,v'=>∃cs',jV ρ cs cs'∧v'= .agg cs'
 |.tuple cs,v'=>∃cs',jV ρ cs cs'∧v'= .tuple cs'
def jV (ρ:gP):Array Value→Array Value→Prop
 |⟨l⟩,a=>aT ρ l a.toList
def aT (ρ:gP):List Value→List Value→Prop
 |[],l'=>l'=[]
 |v::l,l'=>∃v' t',aD ρ v v'∧aT ρ l t'∧l'=v'::t'
end
inductive kY where
 |cells (c:List Value) (elem:TypeId) (fz:Nat×Nat) (exact:Bool)
 |loop (st:LoopState) (pending:Option Code) (fn:FuncId) (tmps:List Value) (params:Array Tmp) (assign body:Code) (defers:Nat)
 |marks (here:Bool)
 |map (es:List (Value×Value×Nat)) (clock:Nat)
 |mapIter (m:Option Nat) (since:Nat) (seen:List Nat) (last:Nat)
 |Xi (s:ByteArray) (pos:Nat)
inductive Tr (α:Type) where
 |lf
 |nd (v:α) (l r:Tr α)
noncomputable def Tr.get {α:Type} (d:α) (t:Tr α):Nat→α:=
 Tr.rec (motive:=fun _=>Nat→α) (fun _=>d) (fun v _ _ gl gr n=>Nat.rec (motive:=fun _=>α) v (fun m _=>Nat.rec (motive:=fun _=>α) (gl (Nat.div m 2)) (fun _ _=>gr (Nat.div m 2)) (Nat.mod m 2)) n) t
noncomputable def Tr.path {α:Type} (d:α) (f:Nat):Nat→α→Tr α:=
 Nat.rec (motive:=fun _=>Nat→α→Tr α) (fun _ _=> .lf) (fun _ ih n o=>Nat.rec (motive:=fun _=>Tr α) (.nd o .lf .lf) (fun m _=>Nat.rec (motive:=fun _=>Tr α) (.nd d (ih (Nat.div m 2) o) .lf) (fun _ _=> .nd d .lf (ih (Nat.div m 2) o)) (Nat.mod m 2)) n) f
noncomputable def Tr.set {α:Type} (d:α) (t:Tr α):Nat→α→Tr α:=
 Tr.rec (motive:=fun _=>Nat→α→Tr α) (fun n o=>Tr.path d (n+1) n o)
  (fun v l r sl sr n o=>Nat.rec (motive:=fun _=>Tr α) (.nd o l r) (fun m _=>Nat.rec (motive:=fun _=>Tr α) (.nd v (sl (Nat.div m 2) o) r) (fun _ _=> .nd v l (sr (Nat.div m 2) o)) (Nat.mod m 2)) n) t
theorem Na {β:Type} (n:Nat) (a b:β):Nat.rec (motive:=fun _=>β) a (fun _ _=>b) (Nat.mod n 2)=if n % 2=0 then a else b:=by
 show Nat.rec (motive:=fun _=>β) a (fun _ _=>b) (n % 2)=_
 cases n % 2<;>rfl
theorem Tr.H6 {α:Type} (d:α) (n:Nat):(Tr.lf:Tr α).get d n=d:=rfl
theorem Tr.Mx {α:Type} (d v:α) (l r:Tr α):(Tr.nd v l r).get d 0=v:=rfl
theorem Tr.E6 {α:Type} (d v:α) (l r:Tr α) (n:Nat):(Tr.nd v l r).get d (n+1)=if n % 2=0 then l.get d (n/2) else r.get d (n/2):=Na _ _ _
theorem Tr.aAv {α:Type} (d:α) (f:Nat) (o:α):Tr.path d (f+1) 0 o= .nd o .lf .lf:=rfl
theorem Tr.aA9 {α:Type} (d:α) (f n:Nat) (o:α):Tr.path d (f+1) (n+1) o=if n % 2=0 then .nd d (Tr.path d f (n/2) o) .lf else .nd d .lf (Tr.path d f (n/2) o):=Na _ _ _
theorem Tr.aAl {α:Type} (d:α) (n:Nat) (o:α):(Tr.lf:Tr α).set d n o=Tr.path d (n+1) n o:=rfl
theorem Tr.aCc {α:Type} (d v:α) (l r:Tr α) (o:α):(Tr.nd v l r).set d 0 o= .nd o l r:=rfl
theorem Tr.aCe {α:Type} (d v:α) (l r:Tr α) (n:Nat) (o:α):(Tr.nd v l r).set d (n+1) o=if n % 2=0 then .nd v (l.set d (n/2) o) r else .nd v l (r.set d (n/2) o):=Na _ _ _
theorem Tr.Q5 {α:Type} (d:α):∀(f n m:Nat) (o:α),n<f→(Tr.path d f n o).get d m=if m=n then o else d
 |0,n,_,_,h=>absurd h (Nat.not_lt_zero n)
 |f+1,0,m,o,_=>by
  rw[Tr.aAv]
  cases m with
  |zero=>simp[Tr.Mx]
  |succ m=>simp[Tr.E6,Tr.H6]
 |f+1,n+1,m,o,h=>by
  have ih:=fun m=>Tr.Q5 d f (n/2) m o (by omega)
  rw[Tr.aA9]
  by_cases hn:n % 2=0
  ·rw[if_pos hn]
   cases m with
   |zero=>simp[Tr.Mx]
   |succ m=>
    rw[Tr.E6]
    by_cases hm:m % 2=0
    ·grind
    ·rw[if_neg hm,Tr.H6];grind
  ·rw[if_neg hn]
   cases m with
   |zero=>simp[Tr.Mx]
   |succ m=>
    rw[Tr.E6]
    by_cases hm:m % 2=0
    ·rw[if_pos hm,Tr.H6];grind
    grind
theorem Tr.gU {α:Type} (d:α):∀(t:Tr α) (n m:Nat) (o:α),(t.set d n o).get d m=if m=n then o else t.get d m
 |.lf,n,m,o=>by rw[Tr.H6,Tr.aAl];exact Tr.Q5 d (n+1) n m o (Nat.lt_succ_self _)
 |.nd v l r,0,m,o=>by
  rw[Tr.aCc]
  cases m with
  |zero=>simp[Tr.Mx]
  |succ m=>simp[Tr.E6]
 |.nd v l r,n+1,m,o=>by
  rw[Tr.aCe]
  by_cases hn:n % 2=0
  ·rw[if_pos hn]
   cases m with
   |zero=>simp[Tr.Mx]
   |succ m=>
    rw[Tr.E6,Tr.E6]
    by_cases hm:m % 2=0
    ·rw[if_pos hm,if_pos hm,Tr.gU d l]
     grind
    grind
  ·rw[if_neg hn]
   cases m with
   |zero=>simp[Tr.Mx]
   |succ m=>
    rw[Tr.E6,Tr.E6]
    by_cases hm:m % 2=0
    ·grind
    ·rw[if_neg hm,if_neg hm,Tr.gU d r]
     grind
structure AH where
 base:Nat
 next:Nat
 old:Nat→Option kY
 new:Tr (Option kY)
def AH.get (h:AH) (i:Nat):Option kY:=AH.rec (motive:=fun _=>Option kY) (fun base _ old new=>Bool.rec (motive:=fun _=>Option kY) (new.get none (Nat.sub i base)) (old i) (Nat.blt i base)) h
def AH.set (h:AH) (i:Nat) (o:Option kY):AH:=AH.rec (motive:=fun _=>AH) (fun base next old new=>Bool.rec (motive:=fun _=>AH) ⟨base,next,old,new.set none (Nat.sub i base) o⟩ ⟨base,next,old,new⟩ (Nat.blt i base)) h
def AH.alloc (h:AH) (o:kY):AH:=AH.rec (motive:=fun _=>AH) (fun base next old new=>⟨base,Nat.succ next,old,new.set none (Nat.sub next base) (some o)⟩) h
theorem AH.get_eq (h:AH) (i:Nat):h.get i=if i<h.base then h.old i else h.new.get none (i - h.base):=by
 obtain⟨base,next,old,new⟩:=h
 simp only[AH.get]
 cases hb:Nat.blt i base with
 |true=>simp_all
 |false=>rw[if_neg (by rw[←Nat.blt_eq,hb];simp)];rfl
theorem AH.D9 (h:AH) (i:Nat) (o:Option kY):h.set i o=if i<h.base then h else {h with new:=h.new.set none (i - h.base) o}:=by
 obtain⟨base,next,old,new⟩:=h
 simp only[AH.set]
 cases hb:Nat.blt i base with
 |true=>simp_all
 |false=>rw[if_neg (by rw[←Nat.blt_eq,hb];simp)];rfl
theorem AH.alloc_eq (h:AH) (o:kY):h.alloc o={h with new:=h.new.set none (h.next - h.base) (some o),next:=h.next+1}:=rfl
theorem AH.gU {h:AH} {i j:Nat} {o:Option kY} (hi:h.base≤i):(h.set i o).get j=if j=i then o else h.get j:=by
 rw[AH.D9,if_neg (Nat.not_lt.2 hi),AH.get_eq,AH.get_eq]
 by_cases hj:j<h.base
 ·grind
 ·simp only[hj,if_false,Tr.gU]
  grind
@[simp] theorem AH.Q8 {h:AH} {i:Nat} {o:Option kY}:(h.set i o).base=h.base:=by rw[AH.D9];split<;>rfl
@[simp] theorem AH.kj {h:AH} {i:Nat} {o:Option kY}:(h.set i o).next=h.next:=by rw[AH.D9];split<;>rfl
@[simp] theorem AH.yk {h:AH} {o:kY}:(h.alloc o).base=h.base:=rfl
@[simp] theorem AH.zi {h:AH} {o:kY}:(h.alloc o).next=h.next+1:=rfl
theorem AH.tQ {h:AH} {j:Nat} {o:kY} (hb:h.base≤h.next):(h.alloc o).get j=if j=h.next then some o else h.get j:=by
 rw[AH.alloc_eq,AH.get_eq,AH.get_eq]
 by_cases hj:j<h.base
 ·grind
 ·simp only[hj,if_false,Tr.gU]
  grind
def bY (c:List Value) (off:Nat) (xs:List Value):List Value:=c.take off++xs++c.drop (off+xs.length)
end
end Go.Ab
end
section
namespace Go.Ab
noncomputable section
def iC (P:Program) (t:TypeId):Option Bool:=
 (P.underlying t).map fun|.struct _|.array _ _=>true|_=>false
def zeroOf (P:Program) (t:TypeId):Option (List Value):=
 ((P.info? t).bind (·.zero)).bind fun z=>
  if dE z&&z.cells.toList.all eE&&z.cells.size==P.cellsOf t then some z.cells.toList else none
def bytesOf (P:Program) (t:TypeId):Nat:=P.bytesOf t
def cF (h:AH) (a:Addr) (n:Nat):Option (List Value):=
 if a.spot.isSome then none else
 match h.get a.block with
 |some (.cells c _ _ _)=>if a.off+n≤c.length then some ((c.drop a.off).take n) else none
 |_=>none
def qV (P:Program) (h:AH) (t:TypeId) (a:Addr):Option Value:=
 match iC P t with
 |some true=>(cF h a (P.cellsOf t)).map fun l=> .agg ⟨l⟩
 |some false=>
  if a.spot.isSome then none else
  match h.get a.block with
  |some (.cells c _ _ _)=>c[a.off]?
  |_=>none
 |none=>none
def dV (h:AH) (a:Addr) (vs:List Value):Option AH:=
 if a.spot.isSome||a.block<h.base|| !vs.all eE then none else
 match h.get a.block with
 |some (.cells c e fz x)=>if fz.2=0∧a.off+vs.length≤c.length then some (h.set a.block (some (.cells (bY c a.off vs) e fz x))) else none
 |_=>none
def hQ (v:Value):Option (List Value):=if vP v then none else some v.cells.toList
def Jh (P:Program) (h:AH) (t:TypeId) (a:Addr) (v:Value):Option AH:=
 match hQ v with
 |some vs=>if vs.length=P.cellsOf t∧(P.info? t).isSome then dV h a vs else none
 |none=>none
def apart (P:Program) (t:TypeId) (cs:List Value) (off:Nat):Option Value:=
 match iC P t with
 |some true=>if off+P.cellsOf t≤cs.length then some (.agg ⟨(cs.drop off).take (P.cellsOf t)⟩) else none
 |some false=>cs[off]?
 |none=>none
def Bn (place:Nat→Option (Nat×Nat)) (cells:List Value):List (Nat×Value)→Option (List Value)
 |[]=>some cells
 |(i,v)::rest=>
  match place i,hQ v with
  |some (off,size),some vs=>if vs.length=size∧off+vs.length≤cells.length then Bn place (bY cells off vs) rest else none
  |_,_=>none
def Eg (P:Program) (t:TypeId) (parts:List (Nat×Value)):Option Value:=
 match zeroOf P t,P.underlying t with
 |some z,some (.struct fs)=>
  if fs.all (fun f=>(P.info? f.type).isSome) then(Bn (fun i=>(fs[i]?).map fun f=>(f.offset,P.cellsOf f.type)) z parts).map fun l=> .agg ⟨l⟩ else none
 |some z,some (.array _ e)=>
  if(P.info? e).isSome then(Bn (fun i=>some (i*P.cellsOf e,P.cellsOf e)) z parts).map fun l=> .agg ⟨l⟩ else none
 |_,_=>none
def eB (z:List Value) (n:Nat):List Value:=(List.replicate n z).flatten
def jM (v:Option Value) (dflt:Nat) (most:Nat):Option Nat:=
 match v with
 |none=>some dflt
 |some (.int _ i)=>if 0≤i∧i≤most then some i.toNat else none
 |some _=>none
def wJ (a:Addr):Value:= .slice (some ⟨a.block,a.off,some 2⟩) 0 0
def rG:Value:= .slice (some ⟨0,0,some 1⟩) 0 0
def zr:Value:= .slice (some ⟨0,0,some 0⟩) 0 0
def oI (h:AH) (i:Nat):Option Bool:=match h.get i with|some (.cells _ _ _ x)=>some x|_=>none
def qH (P:Program) (h:AH) (t:TypeId) (x:Value) (lo hi mx:Option Value):Option Value:=
 match P.underlying t,x with
 |some (.array n e),.pointer (some a)=>
  match jM mx n n with
  |some m=>match(if hi.isNone&&mx.isSome then none else jM hi n m) with
   |some hh=>match jM lo 0 hh with
    |some l=>if(P.info? e).isSome∧a.spot=none then some (.slice (some (if m=l then a else a.add (l*P.cellsOf e))) (hh - l) (m - l)) else none
    |none=>none
   |none=>none
  |none=>none
 |some .string,.string s=>
  if mx.isSome then none else
  match jM hi s.size s.size with
  |some hh=>match jM lo 0 hh with
   |some l=>some (.string (s.extract l hh))
   |none=>none
  |none=>none
 |some (.slice e),.slice none len cap=>
  match jM mx cap cap with
  |some m=>match(if hi.isNone&&mx.isSome then none else jM hi len m) with
   |some hh=>match jM lo 0 hh with
    |some l=>if(P.info? e).isSome then some (.slice none (hh - l) (m - l)) else none
    |none=>none
   |none=>none
  |none=>none
 |some (.slice e),.slice (some a) len cap=>
  match jM mx cap cap with
  |some m=>match(if hi.isNone&&mx.isSome then none else jM hi len m) with
   |some hh=>match jM lo 0 hh with
    |some l=>
     if a.spot.isSome then(if(P.info? e).isSome∧len=0∧cap=0 then some (if mx.isSome then rG else zr) else none) else
     if(P.info? e).isSome∧hh≤m then
      (if m=l then
       if mx.isSome then some rG else
       match oI h a.block with
       |some true=>some rG
       |some false=>some (wJ (a.add (l*P.cellsOf e)))
       |none=>none
      else some (.slice (some (a.add (l*P.cellsOf e))) (hh - l) (m - l)))
     else none
    |none=>none
   |none=>none
  |none=>none
 |_,_=>none
def kM (P:Program) (eq:TypeId→Value→Value→Option Bool) (xs ys:List Value):List Field→Option Bool
 |[]=>some true
 |f::fs=>
  if f.name="_" then kM P eq xs ys fs else
  match apart P f.type xs f.offset,apart P f.type ys f.offset with
  |some x,some y=>match eq f.type x y with
   |some true=>kM P eq xs ys fs
   |some false=>some false
   |none=>none
  |_,_=>none
def oT (P:Program) (eq:TypeId→Value→Value→Option Bool) (e:TypeId) (xs ys:List Value):List Nat→Option Bool
 |[]=>some true
 |i::is=>
  match apart P e xs (i*P.cellsOf e),apart P e ys (i*P.cellsOf e) with
  |some x,some y=>match eq e x y with
   |some true=>oT P eq e xs ys is
   |some false=>some false
   |none=>none
  |_,_=>none
def vX (P:Program):Nat→TypeId→Value→Value→Option Bool
 |0,_,_,_=>none
 |d+1,t,x,y=>
  match P.underlying t,x,y with
  |some .bool,.bool a,.bool b=>some (a==b)
  |some (.int _),.int k a,.int k' b=>if k=k' then some (a==b) else none
  |some .string,.string a,.string b=>some (a==b)
  |some (.pointer _),.pointer none,.pointer b=>some b.isNone
  |some (.pointer _),.pointer (some _),.pointer none=>some false
  |some (.interface _),.nilIface,.nilIface=>some true
  |some (.interface _),.nilIface,.iface _ _=>some false
  |some (.interface _),.iface _ _,.nilIface=>some false
  |some (.struct fs),.agg xs,.agg ys=>if P.stoodInHeld t then none else kM P (vX P d) xs.toList ys.toList fs.toList
  |some (.array n e),.agg xs,.agg ys=>if(P.info? e).isSome then oT P (vX P d) e xs.toList ys.toList (List.range n) else none
  |some (.slice _),.slice none _ _,.slice b _ _=>some b.isNone
  |some (.slice _),.slice (some _) _ _,.slice none _ _=>some false
  |some (.map _ _),.map none,.map b=>some b.isNone
  |some (.map _ _),.map (some _),.map none=>some false
  |some (.func _ _ _),.nilFunc,.nilFunc=>some true
  |some (.func _ _ _),.nilFunc,.func _ _ _=>some false
  |some (.func _ _ _),.func _ _ _,.nilFunc=>some false
  |_,_,_=>none
def isConst:Operand→Bool
 |.const _=>true
 |_=>false
def Fa (P:Program) (t:TypeId) (x y:Operand) (a b:Value):Bool:=
 match a,b with
 |.nilIface,.nilIface=>isConst x||isConst y
 |.agg _,.agg _=> !P.eqGuardType P.depth t
 |_,_=>true
def aCg (op:BinOp) (x y:Int):Option Bool:=
 match op with
 |.eql=>some (x==y)
 |.neq=>some (x !=y)
 |.lss=>some (decide (x<y))
 |.leq=>some (decide (x≤y))
 |.gtr=>some (decide (x>y))
 |.geq=>some (decide (x≥y))
 |_=>none
def J5 (op:BinOp) (k:IntKind) (x y:Int):Option Value:=
 if y<0 then none else
 match op with
 |.shl=>some (.int k (k.wrap (x*2^(min y.toNat k.bits))))
 |.shr=>some (.int k (x.fdiv (2^(min y.toNat k.bits))))
 |_=>none
def Ki (op:BinOp) (k:IntKind) (x y:Int):Option Value:=
 match op with
 |.add=>some (.int k (k.wrap (x+y)))
 |.sub=>some (.int k (k.wrap (x - y)))
 |.mul=>some (.int k (k.wrap (x*y)))
 |.quo=>if y=0 then none else some (.int k (k.wrap (x.tdiv y)))
 |.rem=>if y=0 then none else some (.int k (x.tmod y))
 |.eql|.neq|.lss|.leq|.gtr|.geq=>(aCg op x y).map .bool
 |.shl|.shr=>J5 op k x y
 |.and=>some (.int k (k.wrap (BitVec.ofInt k.bits x&&&BitVec.ofInt k.bits y).toNat))
 |.or=>some (.int k (k.wrap (BitVec.ofInt k.bits x|||BitVec.ofInt k.bits y).toNat))
 |.xor=>some (.int k (k.wrap (BitVec.ofInt k.bits x^^^BitVec.ofInt k.bits y).toNat))
 |.andNot=>some (.int k (k.wrap (BitVec.ofInt k.bits x&&&~~~BitVec.ofInt k.bits y).toNat))
def uq (op:BinOp) (x y:ByteArray):Option Value:=
 match op with
 |.add=>if x.size+y.size≤2^62 then some (.string (x++y)) else none
 |.eql=>some (.bool (x.toList==y.toList))
 |.neq=>some (.bool !(x.toList==y.toList))
 |.lss=>some (.bool (Op.bytesLess x.toList y.toList))
 |_=>none
def M9 (P:Program) (op:BinOp) (t:TypeId) (x y:Operand) (a b:Value):Option Value:=
 match a,b with
 |.int k m,.int k' n=>if k=k' then Ki op k m n else J5 op k m n
 |.string m,.string n=>uq op m n
 |a,b=>
  match op with
  |.eql=>if Fa P t x y a b then(vX P 10000 t a b).map .bool else none
  |.neq=>if Fa P t x y a b then(vX P 10000 t a b).map fun e=> .bool !e else none
  |_=>none
def dW (P:Program) (ev:Operand→Value):Op→Option (kY×(Nat→Value))
 |.alloc e=>(zeroOf P e).map fun z=>(.cells z e (0,0) true,fun i=> .pointer (some ⟨i,0,none⟩))
 |.box e x=>(hQ (ev x)).map fun l=>(.cells l e (0,0) true,fun i=> .pointer (some ⟨i,0,none⟩))
 |.buildSlice t len parts=>
  match P.underlying t with
  |some (.slice e)=>
   match zeroOf P e with
   |some z=>
    if len*P.cellsOf e≤2^24 then
     (Bn (fun i=>some (i*P.cellsOf e,P.cellsOf e)) (eB z len) (parts.toList.map fun p=>(p.1,ev p.2))).map fun l=>
      (.cells l e (0,0) true,fun i=> .slice (some ⟨i,0,none⟩) len len)
    else none
   |none=>none
  |_=>none
 |.makeSlice t l c=>match P.underlying t,ev l,ev c with
  |some (.slice e),.int _ l,.int _ c=>
   match zeroOf P e with
   |some z=>
    if 0≤l∧l≤c∧c≤2^40∧P.bytesOf e*c≤2^47 then
     some (.cells (eB z c.toNat) e (0,0) true,fun i=> .slice (some ⟨i,0,none⟩) l.toNat c.toNat)
    else none
   |none=>none
  |_,_,_=>none
 |.makeMap t r=>match r with
  |none=>some (.map [] 0,fun i=> .map (some i))
  |some x=>match P.underlying t,ev x with
   |some (.map _ _),.int _ _=>some (.map [] 0,fun i=> .map (some i))
   |_,_=>none
 |_=>none
def El (P:Program) (t:TypeId):Option TypeId:=
 match P.underlying t with
 |some (.map key elem)=>match P.underlying key with
  |some (.int _)=>some elem
  |_=>none
 |_=>none
def sV (k:IntKind) (n:Int):List (Value×Value×Nat)→Nat→Option (Option (Nat×Value))
 |[],_=>some none
 |(.int j m,v,_)::es,i=>if k=j then(if n=m then some (some (i,v)) else sV k n es (i+1)) else none
 |_::_,_=>none
def zeroV (P:Program) (t:TypeId):Option Value:=((P.info? t).bind (·.zero)).bind fun z=>if dE z then some z else none
def Uw (h:AH):Value→Option (List (Value×Value×Nat))
 |.map none=>some []
 |.map (some r)=>match h.get r with
  |some (.map es _)=>some es
  |_=>none
 |_=>none
def rR (P:Program) (h:AH) (t:TypeId) (x ix:Value) (ok:Bool):Option Value:=
 match El P t,Uw h x,ix with
 |some e,some es,.int k n=>match sV k n es 0 with
  |some (some (_,v))=>some (if ok then .tuple ⟨[v,.bool true]⟩ else v)
  |some none=>(zeroV P e).map fun z=>if ok then .tuple ⟨[z,.bool false]⟩ else z
  |none=>none
 |_,_,_=>none
def ui (k:IntKind) (n:Int) (v:Value) (es:List (Value×Value×Nat)) (clock:Nat):Option kY:=
 match sV k n es 0 with
 |some (some (i,_))=>some (.map (es.modify i fun e=>(.int k n,v,e.2.2)) clock)
 |some none=>some (.map (es++[(.int k n,v,clock)]) (clock+1))
 |none=>none
def yD (P:Program) (h:AH) (t:TypeId) (m key v:Value):Option AH:=
 match El P t,m,key with
 |some _,.map (some r),.int k n=>if r<h.base then none else match h.get r with
  |some (.map es clock)=>(ui k n v es clock).map fun o=>h.set r (some o)
  |_=>none
 |_,_,_=>none
def C6 (P:Program) (h:AH) (t:TypeId) (m key:Value):Option AH:=
 match El P t,m,key with
 |some _,.map none,.int _ _=>some h
 |some _,.map (some r),.int k n=>if r<h.base then none else match h.get r with
  |some (.map es clock)=>match sV k n es 0 with
   |some (some (i,_))=>some (h.set r (some (.map (es.eraseIdx i) clock)))
   |some none=>some (h.set r (some (.map es clock)))
   |none=>none
  |_=>none
 |_,_,_=>none
def byteOf:Value→Option UInt8
 |.int .u8 n=>some (UInt8.ofNat n.toNat)
 |_=>none
def xE:List Value→Option (List UInt8)
 |[]=>some []
 |v::l=>match byteOf v,xE l with
  |some b,some r=>some (b::r)
  |_,_=>none
def strOf (h:AH):Value→Option Value
 |.slice none _ _=>some (.string .empty)
 |.slice (some a) n _=>if n=0 then some (.string .empty) else((cF h a n).bind xE).map fun l=> .string ⟨⟨l⟩⟩
 |_=>none
def bL (P:Program) (ev:Operand→Value) (h:AH):Op→Option Value
 |.move x=>some (ev x)
 |.assign x=>some (ev x)
 |.pick c a b=>match ev c with
  |.bool t=>some (if t then ev a else ev b)
  |_=>none
 |.build t parts=>Eg P t (parts.toList.map fun p=>(p.1,ev p.2))
 |.load t a=>match ev a with
  |.pointer (some a)=>qV P h t a
  |_=>none
 |.nilCheck x=>match ev x with
  |.pointer (some a)=>some (.pointer (some a))
  |.func (.func f) a b=>some (.func (.func f) a b)
  |.func (.yield f) a b=>some (.func (.yield f) a b)
  |_=>none
 |.binOp op t x y _=>M9 P op t x y (ev x) (ev y)
 |.unOp op _ x=>match op,ev x with
  |.neg,.int k n=>some (.int k (k.wrap (0 - n)))
  |.not,.bool b=>some (.bool !b)
  |_,_=>none
 |.convert s d x=>match P.underlying s,P.underlying d,ev x with
  |some _,some (.int k),.int _ n=>some (.int k (k.wrap n))
  |some .string,some .string,.string z=>some (.string z)
  |some (.slice e),some .string,v=>(match P.underlying e with
   |some (.int .u8)=>strOf h v
   |_=>none)
  |_,_,_=>none
 |.makeInterface t x=>match P.underlying t with
  |some (.interface _)=>none
  |some _=>some (.iface t (ev x))
  |none=>none
 |.makeFunc fn first captured=>match fn with
  |.func f=>some (.func (.func f) (first.map ev) (captured.map ev))
  |_=>none
 |.slice t x lo hi mx=>qH P h t (ev x) (lo.map ev) (hi.map ev) (mx.map ev)
 |.fieldAddr s x f=>match P.underlying s,ev x with
  |some (.struct fs),.pointer (some a)=>match fs[f]? with
   |some fd=>if P.cellsOf fd.type=0 then none else some (.pointer (some (a.add fd.offset)))
   |none=>none
  |_,_=>none
 |.field t x f=>match P.underlying t,ev x with
  |some (.struct fs),.agg cs=>match fs[f]? with
   |some fd=>apart P fd.type cs.toList fd.offset
   |none=>none
  |_,_=>none
 |.indexAddr t x i=>match P.underlying t,ev x,ev i with
  |some (.array n e),.pointer (some a),.int _ i=>if 0≤i∧i<n∧(P.info? e).isSome then some (.pointer (some (a.add (i.toNat*P.cellsOf e)))) else none
  |some (.slice e),.slice (some a) n _,.int _ i=>if 0≤i∧i<n∧(P.info? e).isSome∧a.spot=none then some (.pointer (some (a.add (i.toNat*P.cellsOf e)))) else none
  |_,_,_=>none
 |.index t x i=>match P.underlying t,ev x,ev i with
  |some (.array n e),.agg cs,.int _ i=>if 0≤i∧i<n∧(P.info? e).isSome then apart P e cs.toList (i.toNat*P.cellsOf e) else none
  |some .string,.string s,.int _ i=>if 0≤i then(s[i.toNat]?).map fun b=> .int .u8 b.toNat else none
  |_,_,_=>none
 |.extract t i=>match ev t with
  |.tuple vs=>vs.toList[i]?
  |_=>none
 |.lookup t x ix ok=>rR P h t (ev x) (ev ix) ok
 |_=>none
inductive Kind where
 |vJ|alloc|store|call|other
 deriving DecidableEq
def kindOf:Op→Kind
 |.move _|.assign _|.pick ..|.build ..|.load ..|.nilCheck _|.binOp ..|.unOp ..|.convert ..|.makeInterface ..|.makeFunc ..|.slice ..|.fieldAddr ..
 |.field ..|.indexAddr ..|.index ..|.extract ..|.lookup ..=> .vJ
 |.alloc _|.box ..|.buildSlice ..|.makeSlice ..|.makeMap ..=> .alloc
 |.store ..|.mapUpdate ..=> .store
 |.call _=> .call
 |_=> .other
def fQ (h:AH) (size n:Nat):Value→Option (List Value)
 |.slice none _ _=>if n=0 then some [] else none
 |.slice (some a) l _=>if n=0 then some [] else if n≤l then cF h a (n*size) else none
 |.string s=>if n≤s.size then some ((s.extract 0 n).data.toList.map fun b=> .int .u8 b.toNat) else none
 |_=>none
def sM:Value→Option Nat
 |.slice _ n _=>some n
 |.string s=>some s.size
 |_=>none
def Gd (P:Program) (argTypes:Array TypeId):Bool:=
 match(argTypes[1]?).bind P.underlying with
 |some (.slice _)|some .string=>true
 |_=>false
def Gh (P:Program) (h:AH) (argTypes:Array TypeId) (s x:Value):Option (Value×AH):=
 match(argTypes[0]?).bind P.underlying,s,sM x with
 |some (.slice e),.slice base sLen sCap,some n=>
  if !Gd P argTypes then none else
  match zeroOf P e,fQ h (P.cellsOf e) n x with
  |some _,some new=>
   if !new.all eE||new.length !=n*P.cellsOf e then none else
   if sLen+n≤sCap then
    match base with
    |none=>if n=0 then some (s,h) else none
    |some a=>if n=0 then some (s,h) else if a.spot.isSome then none else
     (dV h (a.add (sLen*P.cellsOf e)) new).map fun h'=>(.slice base (sLen+n) sCap,h')
   else if(sLen+n)*(P.bytesOf e+1)≤2^46 then
    match base with
    |none=>if sLen=0 then some (.slice (some ⟨h.next,0,none⟩) n n,h.alloc (.cells new e (0,0) false)) else none
    |some a=>
     if a.spot=some 1 then(if sLen=0 then some (.slice (some ⟨h.next,0,none⟩) n n,h.alloc (.cells new e (0,0) false)) else none) else
     if a.spot=some 2 then
      (match h.get a.block with
      |some (.cells c e' fz _)=>
       if e'=e∧h.base≤a.block∧fz=(0,0)∧a.off≤c.length∧sLen=0∧sCap=0 then
        some (.slice (some ⟨h.next,0,none⟩) n n,(h.set a.block none).alloc (.cells new e (0,0) false))
       else none
      |_=>none) else
     match cF h a (sLen*P.cellsOf e),h.get a.block with
     |some old,some (.cells c e' fz x)=>
      if !old.all eE then none else
      if x then some (.slice (some ⟨h.next,0,none⟩) (sLen+n) (sLen+n),h.alloc (.cells (old++new) e (0,0) false))
      else if e'=e∧h.base≤a.block∧fz=(0,0)∧a.off+sCap*P.cellsOf e≤c.length then
       some (.slice (some ⟨h.next,0,none⟩) (sLen+n) (sLen+n),(h.set a.block none).alloc (.cells (old++new) e (0,0) false))
      else none
     |_,_=>none
   else none
  |_,_=>none
 |_,_,_=>none
def eC (P:Program) (h:AH) (b:Builtin) (argTypes:Array TypeId) (args:List Value):Option (Value×AH):=
 match b,args with
 |.len,[x]=>match(argTypes[0]?).bind P.underlying,x with
  |some .string,.string s=>some (.int .i64 s.size,h)
  |some (.array n _),_=>some (.int .i64 n,h)
  |some (.pointer e),_=>match P.underlying e with
   |some (.array n _)=>some (.int .i64 n,h)
   |_=>none
  |some (.slice _),.slice _ n _=>some (.int .i64 n,h)
  |some (.map _ _),x=>(Uw h x).map fun es=>(.int .i64 es.length,h)
  |_,_=>none
 |.append,[s,x]=>Gh P h argTypes s x
 |.copy,[d,x]=>match(argTypes[0]?).bind P.underlying,d,sM x with
  |some (.slice e),.slice base dLen _,some m=>
   if(P.info? e).isNone then none else
   match fQ h (P.cellsOf e) (Nat.min m dLen) x with
   |some new=>match base with
    |none=>some (.int .i64 (Nat.min m dLen:Nat),h)
    |some a=>if Nat.min m dLen=0 then some (.int .i64 0,h) else(dV h a new).map fun h'=>(.int .i64 (Nat.min m dLen:Nat),h')
   |none=>none
  |_,_,_=>none
 |.clear,[x]=>match(argTypes[0]?).bind P.underlying,x with
  |some _,.slice none _ _=>some (.tuple #[],h)
  |some (.slice e),.slice (some a) n _=>
   if n=0 then some (.tuple #[],h) else
   match zeroOf P e with
   |some z=>(dV h a (eB z n)).map fun h'=>(.tuple #[],h')
   |none=>none
  |_,_=>none
 |.delete,[m,k]=>match argTypes[0]? with
  |some t=>(C6 P h t m k).map fun h'=>(.tuple #[],h')
  |none=>none
 |.min,[.int k x,.int _ y]=>some (.int k (if y<x then y else x),h)
 |.max,[.int k x,.int _ y]=>some (.int k (if y>x then y else x),h)
 |_,_=>none
end
end Go.Ab
end
section
namespace Go.Ab
open Go.RowKit
def Ext (ρ ρ':gP):Prop:=∀i x,ρ i=some x→ρ' i=some x
theorem Ext.refl (ρ:gP):Ext ρ ρ:=fun _ _ h=>h
theorem Ext.trans {a b c:gP} (h:Ext a b) (k:Ext b c):Ext a c:=fun i x hx=>k i x (h i x hx)
theorem B3.mono {ρ ρ':gP} (h:Ext ρ ρ') {f g:Fn} (k:B3 ρ f g):B3 ρ' f g:=by
 cases f<;>simp only[B3] at k ⊢<;>try exact k
 obtain⟨b,s,hb,hg⟩:=k
 exact⟨b,s,h _ _ hb,hg⟩
mutual
theorem aD.mono {ρ ρ':gP} (h:Ext ρ ρ'):∀(v v':Value),aD ρ v v'→aD ρ' v v'
 |.bool _,_,k=>by simp only[aD] at k ⊢;exact k
 |.int _ _,_,k=>by simp only[aD] at k ⊢;exact k
 |.float _ _,_,k=>by simp only[aD] at k ⊢;exact k
 |.complex _ _ _,_,k=>by simp only[aD] at k ⊢;exact k
 |.string _,_,k=>by simp only[aD] at k ⊢;exact k
 |.pointer none,_,k=>by simp only[aD] at k ⊢;exact k
 |.pointer (some _),_,k=>by simp only[aD] at k ⊢;obtain⟨b,s,hb,hv⟩:=k;exact⟨b,s,h _ _ hb,hv⟩
 |.slice none _ _,_,k=>by simp only[aD] at k ⊢;exact k
 |.slice (some ⟨_,_,some _⟩) _ _,_,k=>by
  simp only[aD] at k ⊢
  obtain⟨h1,h2,a',c',h3,h4,h5⟩:=k
  exact⟨h1,h2,a',c',h3,fun hx=>let⟨b,s,hb,hv⟩:=h4 hx;⟨b,s,h _ _ hb,hv⟩,h5⟩
 |.slice (some ⟨_,_,none⟩) _ _,_,k=>by simp only[aD] at k ⊢;obtain⟨b,s,c',hb,hv⟩:=k;exact⟨b,s,c',h _ _ hb,hv⟩
 |.map none,_,k=>by simp only[aD] at k ⊢;exact k
 |.map (some _),_,k=>by simp only[aD] at k ⊢;obtain⟨b,s,hb,hv⟩:=k;exact⟨b,s,h _ _ hb,hv⟩
 |.chan none,_,_=>by simp only[aD]
 |.chan (some _),_,k=>by simp only[aD] at k
 |.func _ fs cs,_,k=>by
  simp only[aD] at k ⊢
  obtain⟨fn',fs',cs',h1,h2,h3,hv⟩:=k
  exact⟨fn',fs',cs',h1.mono h,jV.mono h fs fs' h2,jV.mono h cs cs' h3,hv⟩
 |.nilFunc,_,k=>by simp only[aD] at k ⊢;exact k
 |.iface _ v,_,k=>by simp only[aD] at k ⊢;obtain⟨u,hu,hv⟩:=k;exact⟨u,aD.mono h v u hu,hv⟩
 |.nilIface,_,k=>by simp only[aD] at k ⊢;exact k
 |.agg cs,_,k=>by simp only[aD] at k ⊢;obtain⟨cs',hc,hv⟩:=k;exact⟨cs',jV.mono h cs cs' hc,hv⟩
 |.tuple cs,_,k=>by simp only[aD] at k ⊢;obtain⟨cs',hc,hv⟩:=k;exact⟨cs',jV.mono h cs cs' hc,hv⟩
theorem jV.mono {ρ ρ':gP} (h:Ext ρ ρ'):∀(v v':Array Value),jV ρ v v'→jV ρ' v v'
 |⟨l⟩,a,k=>by simp only[jV] at k ⊢;exact aT.mono h l a.toList k
theorem aT.mono {ρ ρ':gP} (h:Ext ρ ρ'):∀(l l':List Value),aT ρ l l'→aT ρ' l l'
 |[],_,k=>by simp only[aT] at k ⊢;exact k
 |v::l,_,k=>by
  simp only[aT] at k ⊢
  obtain⟨v',t',h1,h2,h3⟩:=k
  exact⟨v',t',aD.mono h v v' h1,aT.mono h l t' h2,h3⟩
end
mutual
theorem gA {ρ:gP}:∀(v:Value),dE v=true→aD ρ v v
 |.bool _,_=>by simp only[aD]
 |.int _ _,_=>by simp only[aD]
 |.float _ _,h=>by simp[dE] at h
 |.complex _ _ _,h=>by simp[dE] at h
 |.string _,_=>by simp only[aD]
 |.pointer none,_=>by simp only[aD]
 |.pointer (some _),h=>by simp[dE] at h
 |.slice none _ _,_=>by simp only[aD]
 |.slice (some _) _ _,h=>by simp[dE] at h
 |.map none,_=>by simp only[aD]
 |.map (some _),h=>by simp[dE] at h
 |.chan _,h=>by simp[dE] at h
 |.func _ _ _,h=>by simp[dE] at h
 |.nilFunc,_=>by simp only[aD]
 |.iface _ v,h=>by simp only[aD];simp only[dE] at h;exact⟨v,gA v h,rfl⟩
 |.nilIface,_=>by simp only[aD]
 |.agg cs,h=>by simp only[aD];simp only[dE] at h;exact⟨cs,Ju cs h,rfl⟩
 |.tuple cs,h=>by simp only[aD];simp only[dE] at h;exact⟨cs,Ju cs h,rfl⟩
theorem Ju {ρ:gP}:∀(v:Array Value),sO v=true→jV ρ v v
 |⟨l⟩,h=>by simp only[sO] at h;simp only[jV];exact nT l h
theorem nT {ρ:gP}:∀(l:List Value),jJ l=true→aT ρ l l
 |[],_=>by simp only[aT]
 |v::l,h=>by
  simp only[jJ,Bool.and_eq_true] at h
  simp only[aT]
  exact⟨v,l,gA v h.1,nT l h.2,rfl⟩
end
theorem hM {ρ:gP} {a b:Array Value}:jV ρ a b↔aT ρ a.toList b.toList:=by cases a;simp only[jV]
section lists
variable {ρ:gP}
theorem aT.nil:aT ρ [] []:=by simp only[aT]
theorem aT.cons {v v':Value} {l l':List Value} (h:aD ρ v v') (k:aT ρ l l'):aT ρ (v::l) (v'::l'):=by
 simp only[aT];grind
theorem aT.Rz {v v':Value} {l l':List Value}:aT ρ (v::l) (v'::l')↔aD ρ v v'∧aT ρ l l':=by
 constructor
 ·intro h
  simp only[aT] at h
  grind
 ·exact fun h=>aT.cons h.1 h.2
theorem aT.length:∀{l l':List Value},aT ρ l l'→l'.length=l.length
 |[],l',h=>by simp only[aT] at h;simp[h]
 |v::l,l',h=>by
  simp only[aT] at h
  obtain⟨v',t',_,h2,rfl⟩:=h
  simp[aT.length h2]
theorem aT.get:∀{l l':List Value} {i:Nat} {v:Value},aT ρ l l'→l[i]?=some v→∃v',l'[i]?=some v'∧aD ρ v v'
 |[],l',i,v,h,k=>by simp at k
 |u::l,l',0,v,h,k=>by
  simp only[aT] at h
  grind
 |u::l,l',i+1,v,h,k=>by
  simp only[aT] at h
  obtain⟨v',t',_,h2,rfl⟩:=h
  simp at k
  simpa using aT.get h2 k
theorem aT.get_none {l l':List Value} {i:Nat} (h:aT ρ l l') (k:l[i]?=none):l'[i]?=none:=by
 rw[List.getElem?_eq_none_iff] at k ⊢
 rw[h.length];exact k
theorem aT.getD {l l':List Value} (i:Nat) (h:aT ρ l l'):aD ρ (l.getD i undef) (l'.getD i undef):=by
 cases k:l[i]? with
 |none=>
  have k':=h.get_none k
  rw[List.getD_eq_getElem?_getD,List.getD_eq_getElem?_getD,k,k']
  exact gA undef (by simp[undef,dE,sO,jJ])
 |some v=>
  obtain⟨v',hv,hr⟩:=h.get k
  grind
theorem aT.append:∀{l l' m m':List Value},aT ρ l l'→aT ρ m m'→aT ρ (l++m) (l'++m')
 |[],l',m,m',h,k=>by simp only[aT] at h;subst h;exact k
 |v::l,l',m,m',h,k=>by
  simp only[aT] at h
  obtain⟨v',t',h1,h2,rfl⟩:=h
  exact aT.cons h1 (aT.append h2 k)
theorem aT.take:∀{l l':List Value} (n:Nat),aT ρ l l'→aT ρ (l.take n) (l'.take n)
 |_,_,0,_=>by simp[aT.nil]
 |[],l',n+1,h=>by simp only[aT] at h;subst h;exact aT.nil
 |v::l,l',n+1,h=>by
  simp only[aT] at h
  obtain⟨v',t',h1,h2,rfl⟩:=h
  exact aT.cons h1 (aT.take n h2)
theorem aT.drop:∀{l l':List Value} (n:Nat),aT ρ l l'→aT ρ (l.drop n) (l'.drop n)
 |_,_,0,h=>by simpa using h
 |[],l',n+1,h=>by simp only[aT] at h;subst h;exact aT.nil
 |v::l,l',n+1,h=>by
  simp only[aT] at h
  obtain⟨v',t',h1,h2,rfl⟩:=h
  exact aT.drop n h2
theorem aT.set:∀{l l':List Value} (i:Nat) {v v':Value},aT ρ l l'→aD ρ v v'→aT ρ (l.set i v) (l'.set i v')
 |[],l',i,v,v',h,k=>by simp only[aT] at h;subst h;exact aT.nil
 |u::l,l',0,v,v',h,k=>by
  simp only[aT] at h
  obtain⟨w',t',h1,h2,rfl⟩:=h
  exact aT.cons k h2
 |u::l,l',i+1,v,v',h,k=>by
  simp only[aT] at h
  obtain⟨w',t',h1,h2,rfl⟩:=h
  exact aT.cons h1 (aT.set i h2 k)
theorem aT.bY {l l' m m':List Value} (i:Nat) (h:aT ρ l l') (k:aT ρ m m'):aT ρ (bY l i m) (bY l' i m'):=by
 unfold Ab.bY
 rw[k.length]
 exact((h.take i).append k).append (h.drop _)
theorem aT.replicate {v v':Value} (n:Nat) (h:aD ρ v v'):aT ρ (List.replicate n v) (List.replicate n v'):=by
 induction n with
 |zero=>exact aT.nil
 |succ n ih=>exact aT.cons h ih
theorem aT.Az {α:Type} {f g:α→Value} (h:∀x,aD ρ (f x) (g x)):∀l:List α,aT ρ (l.map f) (l.map g)
 |[]=>aT.nil
 |x::l=>aT.cons (h x) (aT.Az h l)
end lists
section Kg
variable {ρ:gP}
theorem aD.cells {v v':Value} (h:aD ρ v v') (ht:vP v=false):aT ρ v.cells.toList v'.cells.toList:=by
 cases v with
 |agg cs=>simp only[aD] at h;obtain⟨cs',hc,rfl⟩:=h;exact hM.1 hc
 |chan r=>simp[vP] at ht
 |pointer a=>
  have h0:=h
  cases a with
  |none=>simp only[aD] at h;subst h;exact aT.cons h0 aT.nil
  |some a=>simp only[aD] at h;obtain⟨b,s,hb,rfl⟩:=h;exact aT.cons h0 aT.nil
 |slice a l c=>
  have h0:=h
  cases a with
  |none=>simp only[aD] at h;subst h;exact aT.cons h0 aT.nil
  |some a=>
   obtain⟨i,o,sp⟩:=a
   cases sp with
   |none=>simp only[aD] at h;obtain⟨b,s,c',hb,_,_,rfl⟩:=h;exact aT.cons h0 aT.nil
   |some _=>simp only[aD] at h;obtain⟨_,_,a',c',_,_,rfl⟩:=h;exact aT.cons h0 aT.nil
 |map r=>
  have h0:=h
  cases r with
  |none=>simp only[aD] at h;subst h;exact aT.cons h0 aT.nil
  |some a=>simp only[aD] at h;obtain⟨b,s,hb,rfl⟩:=h;exact aT.cons h0 aT.nil
 |func fn a b=>have h0:=h;simp only[aD] at h;obtain⟨_,_,_,_,_,_,rfl⟩:=h;exact aT.cons h0 aT.nil
 |iface t v=>have h0:=h;simp only[aD] at h;obtain⟨_,_,rfl⟩:=h;exact aT.cons h0 aT.nil
 |tuple t=>have h0:=h;simp only[aD] at h;obtain⟨_,_,rfl⟩:=h;exact aT.cons h0 aT.nil
 |_=>have h0:=h;simp only[aD] at h;subst h;exact aT.cons h0 aT.nil
theorem aD.Om {v v':Value} (h:aD ρ v v') (hc:eE v=true):v'.oneCell'=true:=by
 cases v with
 |agg cs=>simp[eE] at hc
 |chan r=>simp[eE] at hc
 |tuple t=>simp[eE] at hc
 |pointer a=>cases a with
  |none=>simp only[aD] at h;subst h;rfl
  |some a=>simp only[aD] at h;obtain⟨b,s,hb,rfl⟩:=h;rfl
 |slice a l c=>cases a with
  |none=>simp only[aD] at h;subst h;rfl
  |some a=>
   obtain⟨i,o,sp⟩:=a
   cases sp with
   |none=>simp only[aD] at h;obtain⟨b,s,c',hb,_,_,rfl⟩:=h;rfl
   |some _=>simp only[aD] at h;obtain⟨_,_,a',c',_,_,rfl⟩:=h;rfl
 |map r=>cases r with
  |none=>simp only[aD] at h;subst h;rfl
  |some a=>simp only[aD] at h;obtain⟨b,s,hb,rfl⟩:=h;rfl
 |func fn a b=>simp only[aD] at h;obtain⟨_,_,_,_,_,_,rfl⟩:=h;rfl
 |iface t v=>simp only[aD] at h;obtain⟨_,_,rfl⟩:=h;rfl
 |_=>simp only[aD] at h;subst h;rfl
end Kg
def iX (ρ:gP):List (Value×Value×Nat)→List MapEntry→Prop
 |[],es=>es=[]
 |(k,v,n)::l,es=>∃k' v' t,aD ρ k k'∧aD ρ v v'∧iX ρ l t∧es={key:=k',val:=v',born:=n}::t
theorem iX.mono {ρ ρ':gP} (h:Ext ρ ρ'):∀(l:List (Value×Value×Nat)) (es:List MapEntry),iX ρ l es→iX ρ' l es
 |[],_,k=>k
 |(_,_,_)::l,_,⟨k',v',t,h1,h2,h3,h4⟩=>⟨k',v',t,aD.mono h _ _ h1,aD.mono h _ _ h2,iX.mono h l t h3,h4⟩
def rN (P:Program) (ρ:gP) (s:Nat×Nat):kY→Obj→Prop
 |.cells c e fz x,o=>∃c':Array Value,o= .cells c' e fz∧aT ρ c ((c'.toList.drop s.2).take c.length)∧s.2+c.length+s.1*P.cellsOf e≤c'.size∧(x=true→s.1=0∧s.2=0)
 |.loop st A6 fn tmps params assign body d,o=>∃tmps' d' s',aT ρ tmps tmps'∧ρ d=some (d',s')∧
   o= .loop {state:=st,pending:=A6,fn:=fn,tmps:=⟨tmps'⟩,params:=params,assign:=assign,body:=body,defers:=d'}
 |.marks here,o=>o= .deferred (if here then some [] else none)
 |.map es clock,o=>∃es',iX ρ es es'∧o= .map ⟨es'⟩ clock
 |.mapIter m since seen last,o=>∃m',(match m with|none=>m'=none|some r=>∃b s,ρ r=some (b,s)∧m'=some b)∧o= .mapIter m' since ⟨seen⟩ last
 |.Xi s pos,o=>o= .stringIter s pos
theorem rN.mono {P:Program} {ρ ρ':gP} (h:Ext ρ ρ') {s:Nat×Nat} {b:kY} {o:Obj} (k:rN P ρ s b o):rN P ρ' s b o:=by
 cases b with
 |cells c e fz x=>obtain⟨c',h1,h2,h3⟩:=k;exact⟨c',h1,aT.mono h _ _ h2,h3⟩
 |loop st A6 fn tmps params assign body d=>obtain⟨t',d',s',h1,h2,h3⟩:=k;exact⟨t',d',s',aT.mono h _ _ h1,h _ _ h2,h3⟩
 |marks _=>exact k
 |map es c=>obtain⟨es',h1,h2⟩:=k;exact⟨es',iX.mono h _ _ h1,h2⟩
 |mapIter m _ _ _=>
  obtain⟨m',h1,h2⟩:=k
  refine⟨m',?_,h2⟩
  cases m with
  |none=>exact h1
  |some r=>obtain⟨b,s,hb,hm⟩:=h1;exact⟨b,s,h _ _ hb,hm⟩
 |Xi s p=>exact k
structure Inv (P:Program) (B:Nat) (ρ:gP) (h:AH) (w:World):Prop where
 pC:∀i o,h.get i=some o→∀b s,ρ i=some (b,s)→∃o',w.heap[b]?=some o'∧rN P ρ s o o'
 inj:∀i j b si sj,h.base≤i→h.base≤j→(h.get i).isSome→(h.get j).isSome→ρ i=some (b,si)→ρ j=some (b,sj)→i=j
 low:∀i b s,h.base≤i→(h.get i).isSome→ρ i=some (b,s)→B≤b
 old:∀i b s,i<h.base→ρ i=some (b,s)→b<B
 fresh:∀i,h.next≤i→ρ i=none
 gJ:∀i,h.next≤i→h.get i=none
 nI:∀g,g<P.globals.size→ρ g=some (g,(0,0))
 size:B≤w.heap.size
 bn:h.base≤h.next
structure jT (P:Program) (B:Nat) (ρ:gP) (h:AH) (w:World) (ρ':gP) (h':AH) (w':World):Prop where
 ext:Ext ρ ρ'
 inv:Inv P B ρ' h' w'
 un:∀i,i<h.next→ρ i=none→ρ' i=none
 lG:∀i,i<h.next→ρ i=none→h'.get i=h.get i
 stay:∀i,i<h.next→h.get i=none→h'.get i=none
 frame:∀b,b<w.heap.size→(∀i s,h.base≤i→(h.get i).isSome→ρ i≠some (b,s))→w'.heap[b]?=w.heap[b]?
 range:∀i b s,h.base≤i→(h'.get i).isSome→ρ' i=some (b,s)→b<w.heap.size→∃j s',h.base≤j∧(h.get j).isSome∧ρ j=some (b,s')
 base:h'.base=h.base
 tC:∀i,i<h.base→h'.get i=h.get i
 next:h.next≤h'.next
 size:w.heap.size≤w'.heap.size
 os:w'.os=w.os
 out:w'.output=w.output
 tape:w'.tape=w.tape
theorem jT.refl {P:Program} {B:Nat} {ρ:gP} {h:AH} {w:World} (hi:Inv P B ρ h w):jT P B ρ h w ρ h w where
 ext:=Ext.refl ρ
 inv:=hi
 un:=fun _ _ h=>h
 lG:=fun _ _ _=>rfl
 stay:=fun _ _ hn=>hn
 frame:=fun _ _ _=>rfl
 range:=fun i _ s h1 h2 h3 _=>⟨i,s,h1,h2,h3⟩
 base:=rfl
 tC:=fun _ _=>rfl
 next:=Nat.le_refl _
 size:=Nat.le_refl _
 os:=rfl
 out:=rfl
 tape:=rfl
theorem jT.trans {P:Program} {B:Nat} {ρ ρ1 ρ2:gP} {h h1 h2:AH} {w w1 w2:World} (a:jT P B ρ h w ρ1 h1 w1) (b:jT P B ρ1 h1 w1 ρ2 h2 w2):jT P B ρ h w ρ2 h2 w2 where
 ext:=a.ext.trans b.ext
 inv:=b.inv
 un:=fun i hi hn=>b.un i (Nat.lt_of_lt_of_le hi a.next) (a.un i hi hn)
 lG:=fun i hi hn=>(b.lG i (Nat.lt_of_lt_of_le hi a.next) (a.un i hi hn)).trans (a.lG i hi hn)
 stay:=fun i hi hn=>b.stay i (Nat.lt_of_lt_of_le hi a.next) (a.stay i hi hn)
 frame:=fun x hx hn=>by
  refine(b.frame x (Nat.lt_of_lt_of_le hx a.size) ?_).trans (a.frame x hx hn)
  intro i s hb hl he
  rw[a.base] at hb
  obtain⟨j,s',hj1,hj2,hj3⟩:=a.range i x s hb hl he hx
  grind
 range:=fun i x s hb hl he hx=>by
  obtain⟨j,s',hj1,hj2,hj3⟩:=b.range i x s (by rw[a.base];exact hb) hl he (Nat.lt_of_lt_of_le hx a.size)
  rw[a.base] at hj1
  exact a.range j x s' hj1 hj2 hj3 hx
 base:=b.base.trans a.base
 tC:=fun i hi=>(b.tC i (by rw[a.base];exact hi)).trans (a.tC i hi)
 next:=Nat.le_trans a.next b.next
 size:=Nat.le_trans a.size b.size
 os:=b.os.trans a.os
 out:=b.out.trans a.out
 tape:=b.tape.trans a.tape
theorem jT.below {P:Program} {B:Nat} {ρ ρ':gP} {h h':AH} {w w':World} (hi:Inv P B ρ h w) (e:jT P B ρ h w ρ' h' w'):Below B w w':=
 ⟨e.os,e.tape,e.out,e.size,fun k hk=>e.frame k (Nat.lt_of_lt_of_le hk hi.size) fun i s hb hl he=>absurd (hi.low i k s hb hl he) (Nat.not_le.2 hk)⟩
end Go.Ab
end
section
namespace Go.Ab
open Go.RowKit
variable {P:Program} {B:Nat} {ρ:gP} {h:AH} {w:World}
def sA (ρ:gP) (i:Nat) (x:Nat×(Nat×Nat)):gP:=fun j=>if j=i then some x else ρ j
theorem bJ {i:Nat} {x:Nat×(Nat×Nat)}:sA ρ i x i=some x:=by simp[sA]
theorem bN {i j:Nat} {x:Nat×(Nat×Nat)} (h:j≠i):sA ρ i x j=ρ j:=by simp[sA,h]
theorem Ext.sA {i:Nat} {x:Nat×(Nat×Nat)} (h:ρ i=none):Ext ρ (sA ρ i x):=by
 intro j y hy
 by_cases e:j=i
 ·grind
 ·rw[bN e];exact hy
theorem yB (hi:Inv P B ρ h w) {o:kY} {o':Obj} {s:Nat×Nat} {w':World} (hb:rN P (sA ρ h.next (w.heap.size,s)) s o o')
  (hheap:w'.heap=w.heap.push o') (hos:w'.os=w.os) (hout:w'.output=w.output) (htape:w'.tape=w.tape):
  jT P B ρ h w (sA ρ h.next (w.heap.size,s)) (h.alloc o) w':=by
 have hext:Ext ρ (sA ρ h.next (w.heap.size,s)):=Ext.sA (hi.fresh _ (Nat.le_refl _))
 have hget:∀j,(h.alloc o).get j=if j=h.next then some o else h.get j:=fun j=>AH.tQ hi.bn
 have hlt:∀i b s',ρ i=some (b,s')→i<h.next:=fun i b s' hr=>by
  rcases Nat.lt_or_ge i h.next with h1|h1
  ·exact h1
  ·rw[hi.fresh i h1] at hr;cases hr
 refine {ext:=hext,inv:=?_,un:=?_,lG:=?_,stay:=fun j hj hn=>by grind,frame:=?_,range:=?_,base:=rfl,tC:=?_,next:=by simp,size:=by rw[hheap];simp,os:=hos,out:=hout,tape:=htape}
 ·refine {pC:=?_,inj:=?_,low:=?_,old:=?_,fresh:=?_,gJ:=?_,nI:=?_,size:=by rw[hheap];simp;exact Nat.le_succ_of_le hi.size,bn:=Nat.le_succ_of_le hi.bn}
  ·intro i o1 hg b s1 hr
   rw[hget] at hg
   by_cases e:i=h.next
   ·subst e
    rw[if_pos rfl] at hg;cases hg
    rw[bJ] at hr;grind
   ·rw[if_neg e] at hg
    rw[bN e] at hr
    obtain⟨o2,h2,h3⟩:=hi.pC i o1 hg b s1 hr
    refine⟨o2,?_,h3.mono hext⟩
    grind
  ·intro i j b si sj hbi hbj gi gj ri rj
   rw[hget] at gi gj
   by_cases e:i=h.next
   ·by_cases e':j=h.next
    ·rw[e,e']
    ·rw[if_neg e'] at gj
     rw[bN e'] at rj
     obtain⟨oj,hoj⟩:=Option.isSome_iff_exists.1 gj
     obtain⟨o2,h2,_⟩:=hi.pC j oj hoj b sj rj
     subst e
     rw[bJ] at ri;grind
   ·rw[if_neg e] at gi
    rw[bN e] at ri
    by_cases e':j=h.next
    ·obtain⟨oi,hoi⟩:=Option.isSome_iff_exists.1 gi
     obtain⟨o2,h2,_⟩:=hi.pC i oi hoi b si ri
     subst e'
     rw[bJ] at rj;grind
    ·rw[if_neg e'] at gj
     rw[bN e'] at rj
     exact hi.inj i j b si sj hbi hbj gi gj ri rj
  ·intro i b s1 hbi gi ri
   rw[hget] at gi
   by_cases e:i=h.next
   ·subst e;rw[bJ] at ri;cases ri;exact hi.size
   ·rw[if_neg e] at gi;rw[bN e] at ri
    exact hi.low i b s1 hbi gi ri
  ·intro i b s1 hbi ri
   have e:i≠h.next:=fun e=>by have:=hi.bn;simp at hbi;omega
   rw[bN e] at ri
   exact hi.old i b s1 hbi ri
  ·intro i hn
   simp at hn
   rw[bN (by omega)]
   exact hi.fresh i (by omega)
  ·intro i hn
   simp at hn
   rw[hget,if_neg (by omega)]
   exact hi.gJ i (by omega)
  ·intro g hg
   have:=hi.nI g hg
   exact hext _ _ this
 ·intro i hn hr
  rw[bN (by omega)];exact hr
 ·grind
 ·grind
 ·intro i b s1 hbi gi ri hlt'
  rw[hget] at gi
  by_cases e:i=h.next
  ·subst e;rw[bJ] at ri;cases ri;omega
  ·rw[if_neg e] at gi;rw[bN e] at ri
   grind
 ·intro i hn
  rw[hget,if_neg (by have:=hi.bn;omega)]
theorem uB (hi:Inv P B ρ h w) {i b:Nat} {s:Nat×Nat} {o0 o:kY} {o':Obj} {w':World} (hbi:h.base≤i) (hg:h.get i=some o0) (hr:ρ i=some (b,s)) (hb:rN P ρ s o o')
  (hheap:w'.heap=w.heap.setIfInBounds b o') (hos:w'.os=w.os) (hout:w'.output=w.output) (htape:w'.tape=w.tape):
  jT P B ρ h w ρ (h.set i (some o)) w':=by
 have hget:∀j,(h.set i (some o)).get j=if j=i then some o else h.get j:=fun j=>AH.gU hbi
 have hsome:∀j,((h.set i (some o)).get j).isSome→(h.get j).isSome:=fun j hj=>by
  grind
 obtain⟨ob,hob,_⟩:=hi.pC i o0 hg b s hr
 have hbl:b<w.heap.size:=(Array.getElem?_eq_some_iff.1 hob).1
 have hin:i<h.next:=by
  rcases Nat.lt_or_ge i h.next with h1|h1
  ·exact h1
  ·rw[hi.gJ i h1] at hg;cases hg
 refine {ext:=Ext.refl _,inv:=?_,un:=fun _ _ h=>h,lG:=?_,stay:=fun j hj hn=>by grind,frame:=?_,range:=?_,base:=AH.Q8,tC:=?_,next:=by simp,size:=by rw[hheap];simp,os:=hos,out:=hout,tape:=htape}
 ·refine {pC:=?_,inj:=?_,low:=?_,old:=?_,fresh:=?_,gJ:=?_,nI:=hi.nI,size:=by rw[hheap];simp;exact hi.size,bn:=by simp;exact hi.bn}
  ·intro j oj gj bj sj rj
   rw[hget] at gj
   by_cases e:j=i
   ·grind
   ·rw[if_neg e] at gj
    obtain⟨o2,h2,h3⟩:=hi.pC j oj gj bj sj rj
    refine⟨o2,?_,h3⟩
    have hne:b≠bj:=by
     intro hbb
     subst hbb
     rcases Nat.lt_or_ge j h.base with h4|h4
     ·have:=hi.old j b sj h4 rj
      have:=hi.low i b s hbi (by rw[hg];rfl) hr
      omega
     ·exact e (hi.inj j i b sj s h4 hbi (by rw[gj];rfl) (by rw[hg];rfl) rj hr)
    grind
  ·intro j k bb sj sk hj hk gj gk rj rk
   simp at hj hk
   exact hi.inj j k bb sj sk hj hk (hsome j gj) (hsome k gk) rj rk
  ·intro j bb sj hj gj rj
   simp at hj
   exact hi.low j bb sj hj (hsome j gj) rj
  ·intro j bb sj hj rj
   simp at hj
   exact hi.old j bb sj hj rj
  ·intro j hj
   simp at hj
   exact hi.fresh j hj
  ·intro j hj
   simp at hj
   rw[hget,if_neg (by omega)]
   exact hi.gJ j hj
 ·grind
 ·grind
 ·grind
 grind
theorem Qj (hi:Inv P B ρ h w) {i b:Nat} {s s':Nat×Nat} {o0 o:kY} {o':Obj} {w':World} (hbi:h.base≤i) (hg:h.get i=some o0) (hr:ρ i=some (b,s)) (hb:rN P (sA ρ h.next (b,s')) s' o o')
  (hheap:w'.heap=w.heap.setIfInBounds b o') (hos:w'.os=w.os) (hout:w'.output=w.output) (htape:w'.tape=w.tape):
  jT P B ρ h w (sA ρ h.next (b,s')) ((h.set i none).alloc o) w':=by
 have hext:Ext ρ (sA ρ h.next (b,s')):=Ext.sA (hi.fresh _ (Nat.le_refl _))
 have hget:∀j,((h.set i none).alloc o).get j=if j=h.next then some o else if j=i then none else h.get j:=fun j=>by
  rw[AH.tQ (by simp;exact hi.bn),AH.gU hbi];simp
 obtain⟨ob,hob,_⟩:=hi.pC i o0 hg b s hr
 have hbl:b<w.heap.size:=(Array.getElem?_eq_some_iff.1 hob).1
 have hin:i<h.next:=by
  rcases Nat.lt_or_ge i h.next with h1|h1
  ·exact h1
  ·rw[hi.gJ i h1] at hg;cases hg
 have hbB:=hi.low i b s hbi (by rw[hg];rfl) hr
 have key:∀j bj sj,j≠h.next→((h.set i none).alloc o).get j≠none→ρ j=some (bj,sj)→(h.get j).isSome∧j≠i∧b≠bj:=by
  intro j bj sj e gj rj
  rw[hget,if_neg e] at gj
  by_cases e':j=i
  ·grind
  ·rw[if_neg e'] at gj
   have hs:(h.get j).isSome:=by cases hh:h.get j with|none=>exact absurd hh gj|some _=>rfl
   refine⟨hs,e',?_⟩
   intro hbb
   subst hbb
   rcases Nat.lt_or_ge j h.base with h4|h4
   ·have:=hi.old j b sj h4 rj
    omega
   ·exact e' (hi.inj j i b sj s h4 hbi hs (by rw[hg];rfl) rj hr)
 refine {ext:=hext,inv:=?_,un:=?_,lG:=?_,stay:=fun j hj hn=>by grind,frame:=?_,range:=?_,base:=by simp,tC:=?_,next:=by simp,size:=by rw[hheap];simp,os:=hos,out:=hout,tape:=htape}
 ·refine {pC:=?_,inj:=?_,low:=?_,old:=?_,fresh:=?_,gJ:=?_,nI:=fun g hg'=>hext _ _ (hi.nI g hg'),size:=by grind,bn:=by simp;grind}
  ·intro j oj gj bj sj rj
   by_cases e:j=h.next
   ·subst e
    rw[hget,if_pos rfl] at gj;cases gj
    rw[bJ] at rj;grind
   ·rw[bN e] at rj
    obtain⟨_,e',hne⟩:=key j bj sj e (by rw[gj];simp) rj
    rw[hget,if_neg e,if_neg e'] at gj
    obtain⟨o2,h2,h3⟩:=hi.pC j oj gj bj sj rj
    exact⟨o2,by grind,h3.mono hext⟩
  ·intro j k bb sj sk hj hk gj gk rj rk
   simp at hj hk
   by_cases e:j=h.next
   ·by_cases e2:k=h.next
    ·rw[e,e2]
    ·rw[bN e2] at rk
     obtain⟨_,_,hne⟩:=key k bb sk e2 (by grind) rk
     subst e;rw[bJ] at rj;grind
   ·rw[bN e] at rj
    obtain⟨s1,_,hne⟩:=key j bb sj e (by grind) rj
    by_cases e2:k=h.next
    ·subst e2;rw[bJ] at rk;grind
    ·rw[bN e2] at rk
     obtain⟨s2,_,_⟩:=key k bb sk e2 (by grind) rk
     exact hi.inj j k bb sj sk hj hk s1 s2 rj rk
  ·intro j bb sj hj gj rj
   simp at hj
   by_cases e:j=h.next
   ·subst e;rw[bJ] at rj;cases rj;exact hbB
   ·rw[bN e] at rj
    obtain⟨s1,_,_⟩:=key j bb sj e (by grind) rj
    exact hi.low j bb sj hj s1 rj
  ·intro j bb sj hj rj
   simp at hj
   have e:j≠h.next:=by have:=hi.bn;omega
   rw[bN e] at rj
   exact hi.old j bb sj hj rj
  ·intro j hj
   simp at hj
   rw[bN (by omega)]
   exact hi.fresh j (by omega)
  ·intro j hj
   simp at hj
   rw[hget,if_neg (by omega),if_neg (by omega)]
   exact hi.gJ j (by omega)
 ·intro j hj hn
  rw[bN (by omega)];exact hn
 ·grind
 ·grind
 ·intro j bb sj hj gj rj _
  by_cases e:j=h.next
  ·subst e;rw[bJ] at rj;grind
  ·rw[bN e] at rj
   grind
 grind
theorem cQ (b o n:Nat):Addr.add ⟨b,o,none⟩ n=⟨b,o+n,none⟩:=by
 unfold Addr.add
 grind
theorem sG {b e o:Nat} {c:Array Value} {fz:Nat×Nat} (hb:w.heap[b]?=some (.cells c e fz)):w.cell? ⟨b,o,none⟩=c[o]?:=by
 simp[World.cell?,hb]
theorem oH (hi:Inv P B ρ h w) {a:Addr} {b n:Nat} {s:Nat×Nat} {l:List Value} (hr:ρ a.block=some (b,s)) (hl:cF h a n=some l):
  ∃l',(loadCells ⟨b,a.off+s.2,none⟩ n).run P w= .ok ⟨l'⟩ w∧aT ρ l l'∧a.spot=none∧l.length=n:=by
 unfold cF at hl
 cases hs:a.spot with
 |some x=>simp[hs] at hl
 |none=>
  simp only[hs,Option.isSome_none,Bool.false_eq_true,if_false] at hl
  split at hl
  ·rename_i c e fz x hg
   split at hl
   ·rename_i hle
    cases hl
    obtain⟨o',ho,c',rfl,hc,hsz,_⟩:=hi.pC _ _ hg b s hr
    have hlen:=hc.length
    have hcd:(c'.toList.drop s.2).length=c'.size - s.2:=by simp
    refine⟨(((c'.toList.drop s.2).take c.length).drop a.off).take n,?_,(hc.drop _).take _,rfl,by simp;omega⟩
    have hn:((((c'.toList.drop s.2).take c.length).drop a.off).take n).length=n:=by
     grind
    have:=run_loadCells_list (P:=P) (w:=w) ⟨b,a.off+s.2,none⟩ ((((c'.toList.drop s.2).take c.length).drop a.off).take n) (fun j v hj=>by
     rw[cQ,sG ho]
     grind)
    grind
   ·cases hl
  ·cases hl
theorem mK {b e:Nat} {fz:Nat×Nat} (hfz:fz.2=0):∀(vs:List Value) (w:World) (c:Array Value) (off i:Nat),w.heap[b]?=some (.cells c e fz)→(∀v∈vs,v.oneCell'=true)→off+i+vs.length≤c.size→
  ∃w',(storeCells ⟨b,off,none⟩ vs i).run P w= .ok () w'∧w'.heap=w.heap.setIfInBounds b (.cells ⟨bY c.toList (off+i) vs⟩ e fz)∧w'.os=w.os∧w'.output=w.output∧w'.tape=w.tape
 |[],w,c,off,i,hb,_,_=>by
  refine⟨w,by simp[storeCells],?_,rfl,rfl,rfl⟩
  simp only[bY,List.append_nil,List.length_nil,Nat.add_zero,List.take_append_drop]
  obtain⟨hlt,hb'⟩:=Array.getElem?_eq_some_iff.1 hb
  apply Array.ext_getElem?
  intro j
  by_cases e':b=j
  ·subst e';simp[hlt,hb']
  grind
 |v::vs,w,c,off,i,hb,hv,hsz=>by
  simp only[List.length_cons] at hsz
  have h1:w.cell? ⟨b,off+i,none⟩=some c[off+i]:=by rw[sG hb];grind
  have h2:w.frozen? ⟨b,off+i,none⟩=false:=by simp[World.frozen?,hb,hfz]
  have hb2:(w.setCell ⟨b,off+i,none⟩ v).heap[b]?=some (.cells (c.setIfInBounds (off+i) v) e fz):=by
   simp[World.setCell,Array.getElem?_modify,hb]
  obtain⟨w',hr,hh,ho,hu,ht⟩:=mK hfz vs (w.setCell ⟨b,off+i,none⟩ v) (c.setIfInBounds (off+i) v) off (i+1) hb2 (fun u hu=>hv u (List.mem_cons_of_mem _ hu)) (by simp;omega)
  refine⟨w',?_,?_,ho,hu,ht⟩
  ·simp only[storeCells,Sem.run_bind]
   rw[cQ,run_store P w _ v _ (hv v List.mem_cons_self)]
   simp_all
  ·rw[hh]
   apply Array.ext_getElem?
   intro j
   by_cases e':b=j
   ·subst e'
    have hlt:=(Array.getElem?_eq_some_iff.1 hb).1
    simp only[World.setCell]
    rw[Array.getElem?_setIfInBounds_self,Array.getElem?_setIfInBounds_self]
    simp only[Array.size_modify,hlt,if_true]
    congr 2
    apply Array.ext'
    simp only[bY,Array.toList_setIfInBounds,List.length_cons]
    rw[show off+(i+1)=off+i+1 by omega,List.take_succ_eq_append_getElem (by simp;omega)]
    simp only[List.getElem_set_self,List.append_assoc,List.nil_append,List.take_set_of_le (Nat.le_refl _),List.cons_append]
    rw[List.drop_set_of_lt (by omega),show off+i+1+vs.length=off+i+(vs.length+1) by omega]
   ·rw[Array.getElem?_setIfInBounds_ne e',Array.getElem?_setIfInBounds_ne e']
    simp[World.setCell,Array.getElem?_modify,e']
theorem yS (hi:Inv P B ρ h w) {a:Addr} {b:Nat} {s:Nat×Nat} {vs vs':List Value} {h':AH} (hr:ρ a.block=some (b,s)) (hl:dV h a vs=some h') (hv:aT ρ vs vs'):
  ∃w',(storeCells ⟨b,a.off+s.2,none⟩ vs').run P w= .ok () w'∧jT P B ρ h w ρ h' w'∧a.spot=none:=by
 unfold dV at hl
 split at hl
 ·cases hl
 rename_i hcond
 simp only[Bool.or_eq_true,not_or,Bool.not_eq_true,decide_eq_false_iff_not,Bool.not_eq_false'] at hcond
 obtain⟨⟨hs,hbase⟩,hall⟩:=hcond
 have hs:a.spot=none:=by cases hh:a.spot with|none=>rfl|some _=>rw[hh] at hs;cases hs
 split at hl
 ·rename_i c e fz x hg
  split at hl
  ·rename_i hle
   cases hl
   obtain⟨o',ho,c',rfl,hc,hsz,hx⟩:=hi.pC _ _ hg b s hr
   have hlen:=hc.length
   have hvl:=hv.length
   have hone:∀v∈vs',v.oneCell'=true:=by
    intro v hv'
    obtain⟨j,hj⟩:=List.getElem?_of_mem hv'
    have hjl:j<vs.length:=by
     grind
    obtain⟨u,hu,hru⟩:=hv.get (List.getElem?_eq_getElem hjl)
    rw[hj] at hu;cases hu
    exact hru.Om (List.all_eq_true.1 hall _ (List.getElem_mem hjl))
   simp only[List.length_take] at hlen
   obtain⟨w',hrun,hheap,hos,hout,htape⟩:=mK (P:=P) hle.1 vs' w c' (a.off+s.2) 0 ho hone (by simp at hlen ⊢;omega)
   refine⟨w',hrun,uB hi (Nat.not_lt.1 hbase) hg hr (o:= .cells (bY c a.off vs) e fz x) ⟨_,rfl,?_,?_,hx⟩ hheap hos hout htape,hs⟩
   ·have:((bY c'.toList (a.off+s.2+0) vs').drop s.2).take (bY c a.off vs).length=bY ((c'.toList.drop s.2).take c.length) a.off vs':=by
     have hd:(bY c'.toList (a.off+s.2+0) vs').drop s.2=bY (c'.toList.drop s.2) a.off vs':=by
      unfold bY
      simp only[Nat.add_zero]
      rw[List.append_assoc,List.drop_append_of_le_length (by simp;omega),List.drop_take,List.drop_drop,List.append_assoc]
      rw[show a.off+s.2 - s.2=a.off by omega,show s.2+(a.off+vs'.length)=a.off+s.2+vs'.length by omega]
     rw[hd]
     unfold bY
     rw[List.take_append,List.take_append]
     simp only[List.length_append,List.length_take,List.length_drop,List.take_take]
     have e1:min a.off c.length=a.off:=by omega
     have e2:a.off+vs.length+(c.length - (a.off+vs.length))=c.length:=by omega
     rw[e1,e2]
     have e3:min c.length a.off=a.off:=by omega
     have e4:min a.off (c'.toList.length - s.2)=a.off:=by grind
     rw[e3,e4]
     congr 1
     ·congr 1
      rw[List.take_of_length_le (by omega)]
     grind
    show aT ρ _ (((bY c'.toList (a.off+s.2+0) vs').drop s.2).take (bY c a.off vs).length)
    rw[this]
    exact hc.bY _ hv
   ·simp only[bY,List.length_append,List.length_take,List.length_drop] at*
    grind
  ·cases hl
 ·cases hl
end Go.Ab
end
section
namespace Go.Ab
open Go.RowKit
variable {P:Program} {B:Nat} {ρ:gP} {h:AH} {w:World}
theorem Ko {t:TypeId} (hn:P.cellsOf t≠0):∃i,P.info? t=some i∧i.size=P.cellsOf t:=by
 unfold Program.cellsOf at hn ⊢
 cases hi:P.info? t with
 |none=>simp[hi] at hn
 |some i=>grind
theorem fD {t:TypeId} {i:TypeInfo} (hi:P.info? t=some i):(sizeOf t).run P w= .ok (P.cellsOf t) w:=by
 simp[sizeOf,typeInfo,hi,Program.cellsOf]
theorem Fz {t:TypeId} {d:TypeDesc} (hd:P.underlying t=some d):∃i,P.info? t=some i:=by
 unfold Program.underlying at hd
 grind
theorem Ge {t:TypeId} {b:Bool} (hb:iC P t=some b):(isAgg t).run P w= .ok b w:=by
 unfold iC at hb
 cases hd:P.underlying t with
 |none=>simp[hd] at hb
 |some d=>
  rw[hd] at hb
  simp only[Option.map_some,Option.some.injEq] at hb
  unfold isAgg
  simp only[Sem.run_bind,run_underlying hd,Result.andThen_ok]
  subst hb
  cases d<;>rfl
theorem R8 {t:TypeId} {b:Bool} (hb:iC P t=some b):∃i,P.info? t=some i:=by
 unfold iC at hb
 cases hd:P.underlying t with
 |none=>simp[hd] at hb
 |some d=>exact Fz hd
theorem qM {e:TypeId} {z:List Value} (hz:zeroOf P e=some z):
  ∃i zv,P.info? e=some i∧i.zero=some zv∧(zeroValue e).run P w= .ok zv w∧zv.cells.toList=z∧z.length=P.cellsOf e∧(∀ρ:gP,aT ρ z z):=by
 unfold zeroOf at hz
 cases hi:P.info? e with
 |none=>simp[hi] at hz
 |some i=>
  cases hz0:i.zero with
  |none=>simp[hi,hz0] at hz
  |some zv=>
   simp only[hi,hz0,Option.bind_some] at hz
   split at hz
   ·rename_i hc
    simp only[Bool.and_eq_true,beq_iff_eq] at hc
    cases hz
    refine⟨i,zv,rfl,hz0,by simp[zeroValue,typeInfo,hi,hz0],rfl,by simpa using hc.2,fun ρ=>?_⟩
    have hp:=gA (ρ:=ρ) zv hc.1.1
    exact hp.cells (by cases zv<;>first|rfl|simp[dE] at hc)
   ·cases hz
theorem tS {t:TypeId} {cs cs':List Value} {off:Nat} {v:Value} (hv:apart P t cs off=some v) (hc:aT ρ cs cs'):
  ∃v',(part t ⟨cs'⟩ off).run P w= .ok v' w∧aD ρ v v':=by
 unfold apart at hv
 cases hb:iC P t with
 |none=>simp[hb] at hv
 |some b=>
  obtain⟨i,hi⟩:=R8 hb
  rw[hb] at hv
  cases b with
  |true=>
   simp only at hv
   split at hv
   ·cases hv
    refine⟨.agg ⟨(cs'.drop off).take (P.cellsOf t)⟩,?_,?_⟩
    ·simp only[part,Sem.run_bind,Ge hb,Result.andThen_ok,if_true,fD hi,Sem.run_pure]
     grind
    ·simp only[aD]
     exact⟨_,by simp only[jV];exact(hc.drop off).take _,rfl⟩
   ·cases hv
  |false=>
   simp only at hv
   obtain⟨v',hv',hr⟩:=hc.get hv
   refine⟨v',?_,hr⟩
   simp only[part,Sem.run_bind,Ge hb,Result.andThen_ok]
   simp[hv']
theorem Ib (hi:Inv P B ρ h w) {t:TypeId} {a:Addr} {a' v:Value} (ha:aD ρ (.pointer (some a)) a') (hv:qV P h t a=some v):
  ∃v',(Instr.loadAt t a').run P w= .ok v' w∧aD ρ v v':=by
 simp only[aD] at ha
 obtain⟨b,s,hr,rfl⟩:=ha
 unfold qV at hv
 cases hb:iC P t with
 |none=>simp[hb] at hv
 |some x=>
  obtain⟨i,hinf⟩:=R8 hb
  rw[hb] at hv
  cases x with
  |true=>
   simp only[Option.map_eq_some_iff] at hv
   obtain⟨l,hl,rfl⟩:=hv
   obtain⟨l',hrun,hrel,hs,_⟩:=oH hi hr hl
   refine⟨.agg ⟨l'⟩,?_,?_⟩
   ·rw[hs]
    simp only[Instr.loadAt,Instr.sureAddr,loadVar,Sem.run_bind,Sem.run_pure,Result.andThen_ok,Ge hb,if_true,fD hinf,hrun]
   ·simp only[aD];exact⟨_,by simp only[jV];exact hrel,rfl⟩
  |false=>
   simp only at hv
   split at hv
   ·cases hv
   ·rename_i hs
    have hs:a.spot=none:=by cases hh:a.spot with|none=>rfl|some _=>rw[hh] at hs;exact absurd rfl hs
    split at hv
    ·rename_i c e fz x hg
     obtain⟨o',ho,c',rfl,hc,hsz,_⟩:=hi.pC _ _ hg b s hr
     obtain⟨v',hv',hrel⟩:=hc.get hv
     refine⟨v',?_,hrel⟩
     have hcell:w.cell? ⟨b,a.off+s.2,none⟩=some v':=by
      rw[sG ho]
      rw[List.getElem?_take] at hv'
      split at hv'
      ·rw[List.getElem?_drop] at hv'
       rw[Nat.add_comm]
       simpa using hv'
      ·cases hv'
     rw[hs]
     simp only[Instr.loadAt,Instr.sureAddr,loadVar,Sem.run_bind,Sem.run_pure,Result.andThen_ok,Ge hb]
     simp[hcell]
    ·cases hv
theorem Tt (hi:Inv P B ρ h w) {t:TypeId} {a:Addr} {a' v v':Value} {h':AH} (ha:aD ρ (.pointer (some a)) a') (hv:aD ρ v v') (hs:Jh P h t a v=some h'):
  ∃w',(Instr.storeAt t a' v').run P w= .ok () w'∧jT P B ρ h w ρ h' w':=by
 simp only[aD] at ha
 obtain⟨b,s,hr,rfl⟩:=ha
 unfold Jh hQ at hs
 cases ht:vP v with
 |true=>simp[ht] at hs
 |false=>
  simp only[ht,Bool.false_eq_true,if_false] at hs
  split at hs
  ·rename_i hc
   obtain⟨hlen,hsome⟩:=hc
   obtain⟨i,hinf⟩:=Option.isSome_iff_exists.1 hsome
   have hcells:=hv.cells ht
   obtain⟨w',hrun,hevo,hspot⟩:=yS hi hr hs hcells
   refine⟨w',?_,hevo⟩
   rw[hspot]
   have hl:=hcells.length
   simp only[Instr.storeAt,Instr.sureAddr,storeVar,Sem.run_bind,Sem.run_pure,Result.andThen_ok,fD hinf]
   grind
  ·cases hs
def Kp (ρ:gP):List (Nat×Value)→List (Nat×Value)→Prop
 |[],l=>l=[]
 |(i,v)::l,l'=>∃v' t,aD ρ v v'∧Kp ρ l t∧l'=(i,v')::t
theorem E9:∀(vs:List Value) (c:Array Value) (off i:Nat),off+i+vs.length≤c.size→
  ((vs.zipIdx i).foldl (fun cs (x:Value×Nat)=>cs.setIfInBounds (off+x.2) x.1) c)=⟨bY c.toList (off+i) vs⟩
 |[],c,off,i,_=>by
  apply Array.ext'
  simp[bY]
 |v::vs,c,off,i,hsz=>by
  simp only[List.length_cons] at hsz
  simp only[List.zipIdx_cons,List.foldl_cons]
  rw[E9 vs (c.setIfInBounds (off+i) v) off (i+1) (by simp;omega)]
  congr 1
  simp only[bY,Array.toList_setIfInBounds,List.length_cons]
  rw[show off+(i+1)=off+i+1 by omega,List.take_succ_eq_append_getElem (by simp;omega)]
  simp only[List.getElem_set_self,List.append_assoc,List.nil_append,List.take_set_of_le (Nat.le_refl _),List.cons_append]
  rw[List.drop_set_of_lt (by omega),show off+i+1+vs.length=off+i+(vs.length+1) by omega]
theorem Bq {place:Nat→Option (Nat×Nat)}:∀(parts parts':List (Nat×Value)) (cells cells' r:List Value),Kp ρ parts parts'→aT ρ cells cells'→Bn place cells parts=some r→
  ∃r',Instr.fill place ⟨cells'⟩ parts'=some ⟨r'⟩∧aT ρ r r'
 |[],parts',cells,cells',r,hp,hc,hf=>by
  simp only[Kp] at hp;subst hp
  simp only[Bn,Option.some.injEq] at hf;subst hf
  exact⟨cells',rfl,hc⟩
 |(i,v)::parts,parts',cells,cells',r,hp,hc,hf=>by
  simp only[Kp] at hp
  obtain⟨v',t,hv,ht,rfl⟩:=hp
  simp only[Bn] at hf
  split at hf
  ·rename_i off size vs hpl hcv
   unfold hQ at hcv
   split at hcv
   ·cases hcv
   ·rename_i htop
    cases hcv
    split at hf
    ·rename_i hsz
     have hcells:=hv.cells (by simpa using htop)
     have hl:=hcells.length
     have hcl:=hc.length
     obtain⟨r',hr',hrel⟩:=Bq parts t _ _ r ht (hc.bY off hcells) hf
     refine⟨r',?_,hrel⟩
     simp only[Instr.fill,hpl]
     simp only[Array.length_toList] at hl hsz
     rw[if_neg]
     ·rw[←Array.foldl_toList,Array.toList_zipIdx]
      rw[E9 v'.cells.toList ⟨cells'⟩ off 0 (by simp;omega)]
      simpa using hr'
     grind
    ·cases hf
  ·cases hf
theorem Kp.map {α:Type} {f g:α→Value} {k:α→Nat} (hfg:∀x,aD ρ (f x) (g x)):∀l:List α,Kp ρ (l.map fun p=>(k p,f p)) (l.map fun p=>(k p,g p))
 |[]=>rfl
 |x::l=>⟨g x,_,hfg x,Kp.map hfg l,rfl⟩
theorem Ip:∀(fs:List Field),(∀f∈fs,(P.info? f.type).isSome)→
  (fs.mapM (m:=Sem) fun f=>do pure (f.offset,←sizeOf f.type)).run P w= .ok (fs.map fun f=>(f.offset,P.cellsOf f.type)) w
 |[],_=>by simp
 |f::fs,hf=>by
  obtain⟨i,hi⟩:=Option.isSome_iff_exists.1 (hf f List.mem_cons_self)
  simp only[List.mapM_cons,Sem.run_bind,fD hi,Result.andThen_ok,Sem.run_pure,Ip fs (fun g hg=>hf g (List.mem_cons_of_mem _ hg)),List.map_cons]
theorem Q6 {t:TypeId} {parts:List (Nat×Value)} {parts':Array (Nat×Value)} {v:Value} (hp:Kp ρ parts parts'.toList) (hv:Eg P t parts=some v):
  ∃v',(Instr.build t parts').run P w= .ok v' w∧aD ρ v v':=by
 unfold Eg at hv
 split at hv
 ·rename_i z fs hz hd
  obtain⟨i,zv,_,_,hzr,hzc,_,hzz⟩:=qM (w:=w) hz
  split at hv
  ·rename_i hall
   simp only[Option.map_eq_some_iff] at hv
   obtain⟨l,hl,rfl⟩:=hv
   obtain⟨r',hr',hrel⟩:=Bq parts parts'.toList z z l hp (hzz ρ) hl
   refine⟨.agg ⟨r'⟩,?_,by simp only[aD];exact⟨_,by simp only[jV];exact hrel,rfl⟩⟩
   have hz':zv.cells=⟨z⟩:=by rw[←hzc]
   have hpl:(fs.mapM (m:=Sem) fun f=>do pure (f.offset,←sizeOf f.type)).run P w= .ok (fs.map fun f=>(f.offset,P.cellsOf f.type)) w:=by
    rw[Array.mapM_eq_mapM_toList]
    simp only[Sem.run_map]
    rw[Ip fs.toList (fun f hf=>by
     have:=Array.all_eq_true'.1 hall f (by simpa using hf)
     exact this)]
    simp only[Result.andThen_ok,Result.ok.injEq,and_true]
    grind
   simp only[Instr.build,Sem.run_bind,hzr,Result.andThen_ok,run_underlying hd,hpl,hz']
   simp_all
  ·cases hv
 ·rename_i z n e hz hd
  obtain⟨i,zv,_,_,hzr,hzc,_,hzz⟩:=qM (w:=w) hz
  split at hv
  ·rename_i he
   obtain⟨ie,hie⟩:=Option.isSome_iff_exists.1 he
   simp only[Option.map_eq_some_iff] at hv
   obtain⟨l,hl,rfl⟩:=hv
   obtain⟨r',hr',hrel⟩:=Bq parts parts'.toList z z l hp (hzz ρ) hl
   refine⟨.agg ⟨r'⟩,?_,by simp only[aD];exact⟨_,by simp only[jV];exact hrel,rfl⟩⟩
   have hz':zv.cells=⟨z⟩:=by rw[←hzc]
   simp only[Instr.build,Sem.run_bind,hzr,Result.andThen_ok,run_underlying hd,fD hie,hz',hr']
   rfl
  ·cases hv
 ·cases hv
end Go.Ab
end
section
namespace Go.Ab
open Go.RowKit
variable {P:Program} {B:Nat} {ρ:gP} {h:AH} {w:World}
def xC (ρ:gP):Option Value→Option Value→Prop
 |none,v=>v=none
 |some v,v'=>∃u,aD ρ v u∧v'=some u
theorem xC.map {ev ev':Operand→Value} (hev:∀x,aD ρ (ev x) (ev' x)) (o:Option Operand):xC ρ (o.map ev) (o.map ev'):=by
 cases o with
 |none=>rfl
 |some x=>exact⟨_,hev x,rfl⟩
theorem qC {v v':Value} (hv:aD ρ v v') {d y y' r:Nat} (hy:y≤y') (hb:jM (some v) d y=some r):(∀code,(Instr.sliceBound v' y' code).run P w= .ok r w)∧r≤y:=by
 unfold jM at hb
 split at hb
 ·rename_i he;cases he
 ·rename_i k i he
  cases he
  simp only[aD] at hv
  subst hv
  split at hb
  ·rename_i hi
   cases hb
   exact⟨fun code=>run_sliceBound w k i y' code hi.1 (by omega),by omega⟩
  ·cases hb
 ·cases hb
theorem qI {lo hi mx lo' hi' mx':Option Value} (hlo:xC ρ lo lo') (hhi:xC ρ hi hi') (hmx:xC ρ mx mx') (sc:Bool) {len cap cap' m hh l:Nat} (hc:cap≤cap')
  (h1:jM mx cap cap=some m) (h2:(if hi.isNone&&mx.isSome then none else jM hi len m)=some hh) (h3:jM lo 0 hh=some l):
  (Instr.sliceBounds sc len cap' lo' hi' mx').run P w= .ok (l,hh,if mx.isSome then m else cap') w∧m≤cap∧l≤hh∧(mx=none→m=cap):=by
 cases mx with
 |none=>
  simp only[xC] at hmx;subst hmx
  simp only[jM,Option.some.injEq] at h1;subst h1
  cases hi with
  |none=>
   simp only[xC] at hhi;subst hhi
   simp[jM] at h2;subst h2
   cases lo with
   |none=>simp only[xC] at hlo;subst hlo;simp[jM] at h3;subst h3;simp[Instr.sliceBounds]
   |some v=>
    obtain⟨u,hu,rfl⟩:=hlo
    obtain⟨hr,hle⟩:=qC (P:=P) (w:=w) hu (Nat.le_refl _) h3
    simp[Instr.sliceBounds,hr,hle]
  |some v=>
   obtain⟨u,hu,rfl⟩:=hhi
   simp at h2
   obtain⟨hr,hle⟩:=qC (P:=P) (w:=w) hu hc h2
   cases lo with
   |none=>simp only[xC] at hlo;subst hlo;simp[jM] at h3;subst h3;simp[Instr.sliceBounds,hr]
   |some v=>
    obtain⟨u,hu,rfl⟩:=hlo
    obtain⟨hr2,hle2⟩:=qC (P:=P) (w:=w) hu (Nat.le_refl _) h3
    simp[Instr.sliceBounds,hr,hr2,hle2]
 |some x=>
  obtain⟨ux,hux,rfl⟩:=hmx
  obtain⟨hr0,hle0⟩:=qC (P:=P) (w:=w) hux hc h1
  cases hi with
  |none=>simp at h2
  |some v=>
   obtain⟨u,hu,rfl⟩:=hhi
   simp at h2
   obtain⟨hr,hle⟩:=qC (P:=P) (w:=w) hu (Nat.le_refl _) h2
   cases lo with
   |none=>simp only[xC] at hlo;subst hlo;simp[jM] at h3;subst h3;simp[Instr.sliceBounds,hr0,hr,hle0]
   |some v=>
    obtain⟨u,hu,rfl⟩:=hlo
    obtain⟨hr2,hle2⟩:=qC (P:=P) (w:=w) hu (Nat.le_refl _) h3
    simp[Instr.sliceBounds,hr0,hr,hr2,hle2,hle0]
theorem Tm (hi:Inv P B ρ h w) {t:TypeId} {x x':Value} {lo hi_ mx lo' hi' mx':Option Value} {v:Value} (hx:aD ρ x x') (hlo:xC ρ lo lo') (hhi:xC ρ hi_ hi') (hmx:xC ρ mx mx')
  (hv:qH P h t x lo hi_ mx=some v):∃v',(Instr.sliceAt t x' lo' hi' mx').run P w= .ok v' w∧aD ρ v v':=by
 unfold qH at hv
 split at hv
 ·
  rename_i n e a hd
  simp only[aD] at hx
  obtain⟨b,s,hr,rfl⟩:=hx
  split at hv
  ·rename_i m h1
   split at hv
   ·rename_i hh h2
    split at hv
    ·rename_i l h3
     split at hv
     ·rename_i hc
      cases hv
      obtain⟨i,hinf⟩:=Option.isSome_iff_exists.1 hc.1
      obtain⟨hb,_,_,hm⟩:=qI (P:=P) (w:=w) hlo hhi hmx false (Nat.le_refl n) h1 h2 h3
      have hmm:(if mx.isSome then m else n)=m:=by simp_all
      rw[hmm] at hb
      obtain⟨ab,ao,asp⟩:=a
      obtain rfl:asp=none:=hc.2
      refine⟨.slice (some (if m=l then⟨b,ao+s.2,none⟩ else Addr.add ⟨b,ao+s.2,none⟩ (l*P.cellsOf e))) (hh - l) (m - l),?_,?_⟩
      ·simp only[Instr.sliceAt,Sem.run_bind,run_underlying hd,Result.andThen_ok,Instr.sureAddr,Sem.run_pure,hb,fD hinf]
      ·rw[cQ,cQ]
       split<;>(simp only[aD];exact⟨b,s,_,hr,Nat.le_refl _,Nat.le_add_right _ _,by grind⟩)
     ·cases hv
    ·cases hv
   ·cases hv
  ·cases hv
 ·
  rename_i s hd
  simp only[aD] at hx;subst hx
  split at hv
  ·cases hv
  ·rename_i hmx0
   have hmx0:mx=none:=by simp_all
   subst hmx0
   split at hv
   ·rename_i hh h2
    split at hv
    ·rename_i l h3
     cases hv
     obtain⟨hb,_⟩:=qI (P:=P) (w:=w) hlo hhi hmx false (Nat.le_refl s.size) (m:=s.size) rfl (by simpa using h2) h3
     simp only[xC] at hmx;subst hmx
     refine⟨.string (s.extract l hh),?_,by simp only[aD]⟩
     simp only[Instr.sliceAt,Instr.slice,Sem.run_bind,run_underlying hd,Result.andThen_ok,Option.isSome_none,Bool.false_eq_true,if_false,Sem.run_pure] at hb ⊢
     simp[hb]
    ·cases hv
   ·cases hv
 ·
  rename_i e len cap hd
  simp only[aD] at hx;subst hx
  split at hv
  ·rename_i m h1
   split at hv
   ·rename_i hh h2
    split at hv
    ·rename_i l h3
     split at hv
     ·rename_i hc
      cases hv
      obtain⟨i,hinf⟩:=Option.isSome_iff_exists.1 hc
      obtain⟨hb,_,_,hm⟩:=qI (P:=P) (w:=w) hlo hhi hmx true (Nat.le_refl cap) h1 h2 h3
      have hmm:(if mx.isSome then m else cap)=m:=by simp_all
      rw[hmm] at hb
      refine⟨.slice none (hh - l) (m - l),?_,by simp only[aD]⟩
      simp only[Instr.sliceAt,Instr.slice,Sem.run_bind,run_underlying hd,Result.andThen_ok,hb,fD hinf,Sem.run_pure,Option.map_none]
      simp
     ·cases hv
    ·cases hv
   ·cases hv
  ·cases hv
 ·
  rename_i e a len cap hd
  obtain⟨ab,ao,asp⟩:=a
  split at hv
  ·rename_i m h1
   split at hv
   ·rename_i hh h2
    split at hv
    ·rename_i l h3
     split at hv
     ·
      rename_i hs
      obtain⟨sp,rfl⟩:∃sp,asp=some sp:=by cases asp with|none=>simp at hs|some sp=>exact⟨sp,rfl⟩
      split at hv
      ·rename_i hc
       obtain⟨hinf,rfl,rfl⟩:=hc
       cases hv
       obtain⟨i,hinf⟩:=Option.isSome_iff_exists.1 hinf
       simp only[aD] at hx
       obtain⟨_,_,a',c',_,_,rfl⟩:=hx
       obtain⟨hb,hmc,hlh,hm⟩:=qI (P:=P) (w:=w) hlo hhi hmx true (Nat.zero_le c') h1 h2 h3
       obtain rfl:m=0:=by omega
       have hz:hh=0:=by
        cases hi_ with
        |none=>
         simp_all
        |some v=>
         simp at h2
         unfold jM at h2
         grind
       subst hz
       obtain rfl:l=0:=by omega
       cases hms:mx.isSome with
       |true=>
        refine⟨.slice (some a') 0 0,?_,?_⟩
        ·simp only[Instr.sliceAt,Instr.slice,Sem.run_bind,run_underlying hd,Result.andThen_ok,hb,fD hinf,Sem.run_pure,Option.map_some,hms,if_true]
        ·simp only[if_true,rG,aD]
         grind
       |false=>
        refine⟨.slice (some (if c'=0 then a' else a'.add (0*P.cellsOf e))) 0 c',?_,?_⟩
        ·simp only[Instr.sliceAt,Instr.slice,Sem.run_bind,run_underlying hd,Result.andThen_ok,hb,fD hinf,Sem.run_pure,Option.map_some,hms,Bool.false_eq_true,if_false,Nat.sub_zero]
         split<;>rfl
        ·simp only[Bool.false_eq_true,if_false,zr,aD]
         grind
      ·cases hv
     ·rename_i hs
      have hs:asp=none:=by simp_all
      subst hs
      simp only[aD] at hx
      obtain⟨b,s,c',hr,hc1,hc2,rfl⟩:=hx
      split at hv
      ·rename_i hc
       obtain⟨i,hinf⟩:=Option.isSome_iff_exists.1 hc.1
       obtain⟨hb,hmc,hlh,hm⟩:=qI (P:=P) (w:=w) hlo hhi hmx true hc1 h1 h2 h3
       have hrun:(Instr.sliceAt t (.slice (some ⟨b,ao+s.2,none⟩) len c') lo' hi' mx').run P w=
         .ok (.slice (some (if(if mx.isSome then m else c')=l then⟨b,ao+s.2,none⟩ else⟨b,ao+s.2+l*P.cellsOf e,none⟩)) (hh - l) ((if mx.isSome then m else c') - l)) w:=by
        simp only[Instr.sliceAt,Instr.slice,Sem.run_bind,run_underlying hd,Result.andThen_ok,hb,fD hinf,Sem.run_pure,Option.map_some,cQ]
        grind
       refine⟨_,hrun,?_⟩
       split at hv
       ·rename_i hml
        subst hml
        obtain rfl:hh=m:=by omega
        split at hv
        ·rename_i hms
         cases hv
         simp only[hms,if_true,rG,aD]
         grind
        ·rename_i hms
         have hmn:mx=none:=by simp_all
         subst hmn
         have hm:=hm rfl
         subst hm
         split at hv
         ·rename_i hex
          cases hv
          unfold oI at hex
          split at hex
          ·rename_i c el fz x hg
           cases hex
           obtain⟨_,_,_,_,_,_,hx0⟩:=hi.pC _ _ hg b s hr
           have hs0:s.1=0:=(hx0 rfl).1
           simp only[Option.isSome_none,Bool.false_eq_true,if_false,rG,aD]
           grind
          ·cases hex
         ·cases hv
          rw[cQ]
          simp only[Option.isSome_none,Bool.false_eq_true,if_false,wJ,aD]
          rw[Nat.sub_self]
          refine⟨trivial,trivial,_,c' - hh,fun hh=>absurd hh (by omega),fun _=>⟨b,s,hr,by omega,fun hpos=>?_⟩,rfl⟩
          grind
         ·cases hv
       ·rename_i hml
        cases hv
        cases mx with
        |none=>
         have hm:=hm rfl
         subst hm
         simp only[Option.isSome_none,Bool.false_eq_true,if_false]
         rw[if_neg (by omega),cQ]
         simp only[aD]
         grind
        |some y=>
         simp only[Option.isSome_some,if_true]
         rw[cQ,if_neg hml]
         simp only[aD]
         grind
      ·cases hv
    ·cases hv
   ·cases hv
  ·cases hv
 ·cases hv
end Go.Ab
end
section
namespace Go.Ab
open Go.RowKit
variable {P:Program} {B:Nat} {ρ:gP} {h:AH} {w:World}
theorem rA {d:Nat} {eq:TypeId→Value→Value→Option Bool} (heq:∀t x y x' y' r,aD ρ x x'→aD ρ y y'→eq t x y=some r→(Op.equalIn d t x' y').run P w= .ok r w)
  {xs ys xs' ys':List Value} (hx:aT ρ xs xs') (hy:aT ρ ys ys'):∀(fs:List Field) (r:Bool),kM P eq xs ys fs=some r→(Op.eqFields d ⟨xs'⟩ ⟨ys'⟩ fs).run P w= .ok r w
 |[],r,h=>by simp only[kM,Option.some.injEq] at h;subst h;simp[Op.eqFields]
 |f::fs,r,h=>by
  simp only[kM] at h
  split at h
  ·rename_i hn
   simp only[Op.eqFields,hn,ne_eq,not_true_eq_false,if_false]
   exact rA heq hx hy fs r h
  ·rename_i hn
   simp only[Op.eqFields,ne_eq,hn,not_false_eq_true,if_true,Sem.run_bind]
   split at h
   ·rename_i x y h1 h2
    obtain⟨x',hxr,hxv⟩:=tS (P:=P) (w:=w) h1 hx
    obtain⟨y',hyr,hyv⟩:=tS (P:=P) (w:=w) h2 hy
    simp only[hxr,hyr,Result.andThen_ok]
    split at h
    ·rename_i h3
     have:=heq _ _ _ _ _ _ hxv hyv h3
     simp only[this,Result.andThen_ok]
     simpa using rA heq hx hy fs r h
    ·rename_i h3
     cases h
     have:=heq _ _ _ _ _ _ hxv hyv h3
     simp[this]
    ·cases h
   ·cases h
theorem zT {d:Nat} {e:TypeId} {eq:TypeId→Value→Value→Option Bool} (heq:∀t x y x' y' r,aD ρ x x'→aD ρ y y'→eq t x y=some r→(Op.equalIn d t x' y').run P w= .ok r w)
  {xs ys xs' ys':List Value} (hx:aT ρ xs xs') (hy:aT ρ ys ys'):∀(is:List Nat) (r:Bool),oT P eq e xs ys is=some r→(Op.eqItems d e (P.cellsOf e) ⟨xs'⟩ ⟨ys'⟩ is).run P w= .ok r w
 |[],r,h=>by simp only[oT,Option.some.injEq] at h;subst h;simp[Op.eqItems]
 |i::is,r,h=>by
  simp only[oT] at h
  simp only[Op.eqItems,Sem.run_bind]
  split at h
  ·rename_i x y h1 h2
   obtain⟨x',hxr,hxv⟩:=tS (P:=P) (w:=w) h1 hx
   obtain⟨y',hyr,hyv⟩:=tS (P:=P) (w:=w) h2 hy
   simp only[hxr,hyr,Result.andThen_ok]
   split at h
   ·rename_i h3
    have:=heq _ _ _ _ _ _ hxv hyv h3
    simp only[this,Result.andThen_ok]
    simpa using zT heq hx hy is r h
   ·rename_i h3
    cases h
    have:=heq _ _ _ _ _ _ hxv hyv h3
    simp[this]
   ·cases h
  ·cases h
set_option maxHeartbeats 1000000 in
theorem av (d:Nat):∀(t:TypeId) (x y x' y':Value) (r:Bool),aD ρ x x'→aD ρ y y'→vX P d t x y=some r→(Op.equalIn d t x' y').run P w= .ok r w:=by
 induction d with
 |zero=>intro _ _ _ _ _ _ _ _ h;simp[vX] at h
 |succ d ih=>
  intro t x y x' y' r hx hy h
  unfold vX at h
  split at h
  ·rename_i hd;simp only[aD] at hx hy;subst hx;subst hy;cases h;simp[Op.equalIn,run_underlying hd]
  ·rename_i hd
   simp only[aD] at hx hy;subst hx;subst hy
   split at h
   ·rename_i hk;cases h;simp[Op.equalIn,run_underlying hd,hk]
   ·cases h
  ·rename_i hd;simp only[aD] at hx hy;subst hx;subst hy;cases h;simp[Op.equalIn,run_underlying hd]
  ·rename_i b hd
   simp only[aD] at hx;subst hx;cases h
   cases b with
   |none=>simp only[aD] at hy;subst hy;simp[Op.equalIn,run_underlying hd]
   |some b=>simp only[aD] at hy;obtain⟨_,_,_,rfl⟩:=hy;simp[Op.equalIn,run_underlying hd]
  ·rename_i hd
   simp only[aD] at hx hy;obtain⟨_,_,_,rfl⟩:=hx;subst hy;cases h;simp[Op.equalIn,run_underlying hd]
  ·rename_i hd;simp only[aD] at hx hy;subst hx;subst hy;cases h;simp[Op.equalIn,run_underlying hd]
  ·rename_i hd;simp only[aD] at hx hy;subst hx;obtain⟨_,_,rfl⟩:=hy;cases h;simp[Op.equalIn,run_underlying hd]
  ·rename_i hd;simp only[aD] at hx hy;obtain⟨_,_,rfl⟩:=hx;subst hy;cases h;simp[Op.equalIn,run_underlying hd]
  ·rename_i fs xs ys hd
   simp only[aD] at hx hy
   obtain⟨xs',hxs,rfl⟩:=hx
   obtain⟨ys',hys,rfl⟩:=hy
   split at h
   ·cases h
   ·rename_i hst
    have hf:P.fieldsOf t=fs:=by simp[Program.fieldsOf,hd]
    rw[run_equalIn_struct w d t xs' ys' (by rw[hf];exact hd) (by simpa using hst),hf]
    exact rA ih (hM.1 hxs) (hM.1 hys) _ _ h
  ·rename_i n e xs ys hd
   simp only[aD] at hx hy
   obtain⟨xs',hxs,rfl⟩:=hx
   obtain⟨ys',hys,rfl⟩:=hy
   split at h
   ·rename_i he
    obtain⟨i,hi⟩:=Option.isSome_iff_exists.1 he
    rw[run_equalIn_array w d xs' ys' hd hi]
    exact zT ih (hM.1 hxs) (hM.1 hys) _ _ h
   ·cases h
  ·rename_i b _ _ hd
   simp only[aD] at hx;subst hx;cases h
   cases b with
   |none=>simp only[aD] at hy;subst hy;simp[Op.equalIn,run_underlying hd]
   |some b=>
    obtain⟨_,_,sp⟩:=b
    cases sp with
    |none=>simp only[aD] at hy;obtain⟨_,_,_,_,_,_,rfl⟩:=hy;simp[Op.equalIn,run_underlying hd]
    |some _=>simp only[aD] at hy;obtain⟨_,_,_,_,_,_,rfl⟩:=hy;simp[Op.equalIn,run_underlying hd]
  ·rename_i a _ _ _ _ hd
   simp only[aD] at hy;subst hy;cases h
   obtain⟨_,_,sp⟩:=a
   cases sp with
   |none=>simp only[aD] at hx;obtain⟨_,_,_,_,_,_,rfl⟩:=hx;simp[Op.equalIn,run_underlying hd]
   |some _=>simp only[aD] at hx;obtain⟨_,_,_,_,_,_,rfl⟩:=hx;simp[Op.equalIn,run_underlying hd]
  ·rename_i b hd
   simp only[aD] at hx;subst hx;cases h
   cases b with
   |none=>simp only[aD] at hy;subst hy;simp[Op.equalIn,run_underlying hd]
   |some b=>simp only[aD] at hy;obtain⟨_,_,_,rfl⟩:=hy;simp[Op.equalIn,run_underlying hd]
  ·rename_i hd
   simp only[aD] at hx hy;obtain⟨_,_,_,rfl⟩:=hx;subst hy;cases h;simp[Op.equalIn,run_underlying hd]
  ·rename_i hd;simp only[aD] at hx hy;subst hx;subst hy;cases h;simp[Op.equalIn,run_underlying hd]
  ·rename_i hd;simp only[aD] at hx hy;subst hx;obtain⟨_,_,_,_,_,_,rfl⟩:=hy;cases h;simp[Op.equalIn,run_underlying hd]
  ·rename_i hd;simp only[aD] at hx hy;obtain⟨_,_,_,_,_,_,rfl⟩:=hx;subst hy;cases h;simp[Op.equalIn,run_underlying hd]
  ·cases h
end Go.Ab
end
section
namespace Go.Ab
open Go.RowKit
variable {P:Program} {B:Nat} {ρ:gP} {h:AH} {w:World}
theorem Mr {op:BinOp} {t:TypeId} {x y:Operand} {a b a' b':Value} (ha:aD ρ a a') (hb:aD ρ b b') (h1:vP a=false) (h2:vP b=false) (hq:Fa P t x y a b=true):
  (eqGuard op t x y a' b').run P w= .ok () w:=by
 cases a with
 |chan r=>simp[vP] at h1
 |nilIface=>
  simp only[aD] at ha;subst ha
  cases b with
  |chan r=>simp[vP] at h2
  |nilIface=>
   simp only[aD] at hb;subst hb
   simp only[Fa,Bool.or_eq_true] at hq
   cases x with
   |const c=>rw[eqGuard_nil_constL];rfl
   |_=>
    cases y with
    |const c=>rw[eqGuard_nil_constR];rfl
    |_=>simp[isConst] at hq
  |iface u v=>simp only[aD] at hb;obtain⟨_,_,rfl⟩:=hb;rw[eqGuard_nil_iface];rfl
  |agg cs=>simp only[aD] at hb;obtain⟨_,_,rfl⟩:=hb;cases op<;>rfl
  |tuple cs=>simp only[aD] at hb;obtain⟨_,_,rfl⟩:=hb;cases op<;>rfl
  |func fn f c=>simp only[aD] at hb;obtain⟨_,_,_,_,_,_,rfl⟩:=hb;cases op<;>rfl
  |pointer a=>cases a with
   |none=>simp only[aD] at hb;subst hb;cases op<;>rfl
   |some a=>simp only[aD] at hb;obtain⟨_,_,_,rfl⟩:=hb;cases op<;>rfl
  |map a=>cases a with
   |none=>simp only[aD] at hb;subst hb;cases op<;>rfl
   |some a=>simp only[aD] at hb;obtain⟨_,_,_,rfl⟩:=hb;cases op<;>rfl
  |slice a _ _=>cases a with
   |none=>simp only[aD] at hb;subst hb;cases op<;>rfl
   |some a=>
    obtain⟨_,_,sp⟩:=a
    cases sp with
    |none=>simp only[aD] at hb;obtain⟨_,_,_,_,_,_,rfl⟩:=hb;cases op<;>rfl
    |some _=>simp only[aD] at hb;obtain⟨_,_,_,_,_,_,rfl⟩:=hb;cases op<;>rfl
  |_=>simp only[aD] at hb;subst hb;cases op<;>rfl
 |iface u v=>simp only[aD] at ha;obtain⟨_,_,rfl⟩:=ha;rw[eqGuard_at_iface];rfl
 |tuple cs=>simp only[aD] at ha;obtain⟨_,_,rfl⟩:=ha;rw[eqGuard_at_tuple];rfl
 |func fn f c=>simp only[aD] at ha;obtain⟨_,_,_,_,_,_,rfl⟩:=ha;rw[eqGuard_at_func];rfl
 |pointer a=>cases a with
  |none=>simp only[aD] at ha;subst ha;rw[eqGuard_at_pointer];rfl
  |some a=>simp only[aD] at ha;obtain⟨_,_,_,rfl⟩:=ha;rw[eqGuard_at_pointer];rfl
 |map a=>cases a with
  |none=>simp only[aD] at ha;subst ha;rw[eqGuard_at_map];rfl
  |some a=>simp only[aD] at ha;obtain⟨_,_,_,rfl⟩:=ha;rw[eqGuard_at_map];rfl
 |slice a _ _=>cases a with
  |none=>simp only[aD] at ha;subst ha;rw[eqGuard_at_slice];rfl
  |some a=>
   obtain⟨_,_,sp⟩:=a
   cases sp with
   |none=>simp only[aD] at ha;obtain⟨_,_,_,_,_,_,rfl⟩:=ha;rw[eqGuard_at_slice];rfl
   |some _=>simp only[aD] at ha;obtain⟨_,_,_,_,_,_,rfl⟩:=ha;rw[eqGuard_at_slice];rfl
 |bool _=>simp only[aD] at ha;subst ha;rw[eqGuard_at_bool];rfl
 |int _ _=>simp only[aD] at ha;subst ha;rw[eqGuard_at_int];rfl
 |float _ _=>simp only[aD] at ha;subst ha;rw[eqGuard_at_float];rfl
 |complex _ _ _=>simp only[aD] at ha;subst ha;rw[eqGuard_at_complex];rfl
 |string _=>simp only[aD] at ha;subst ha;rw[eqGuard_at_string];rfl
 |nilFunc=>simp only[aD] at ha;subst ha;rw[eqGuard_at_nilFunc];rfl
 |agg cs=>
  simp only[aD] at ha;obtain⟨cs',_,rfl⟩:=ha
  cases b with
  |agg ds=>
   simp only[aD] at hb;obtain⟨ds',_,rfl⟩:=hb
   simp only[Fa,Bool.not_eq_true'] at hq
   exact run_eqGuard_agg w op t x y cs' ds' hq
  |chan r=>simp[vP] at h2
  |iface u v=>simp only[aD] at hb;obtain⟨_,_,rfl⟩:=hb;cases op<;>rfl
  |tuple cs=>simp only[aD] at hb;obtain⟨_,_,rfl⟩:=hb;cases op<;>rfl
  |func fn f c=>simp only[aD] at hb;obtain⟨_,_,_,_,_,_,rfl⟩:=hb;cases op<;>rfl
  |pointer a=>cases a with
   |none=>simp only[aD] at hb;subst hb;cases op<;>rfl
   |some a=>simp only[aD] at hb;obtain⟨_,_,_,rfl⟩:=hb;cases op<;>rfl
  |map a=>cases a with
   |none=>simp only[aD] at hb;subst hb;cases op<;>rfl
   |some a=>simp only[aD] at hb;obtain⟨_,_,_,rfl⟩:=hb;cases op<;>rfl
  |slice a _ _=>cases a with
   |none=>simp only[aD] at hb;subst hb;cases op<;>rfl
   |some a=>
    obtain⟨_,_,sp⟩:=a
    cases sp with
    |none=>simp only[aD] at hb;obtain⟨_,_,_,_,_,_,rfl⟩:=hb;cases op<;>rfl
    |some _=>simp only[aD] at hb;obtain⟨_,_,_,_,_,_,rfl⟩:=hb;cases op<;>rfl
  |_=>simp only[aD] at hb;subst hb;cases op<;>rfl
theorem As {d:Nat} {t:TypeId} {x y:Value} {r:Bool} (h:vX P d t x y=some r):vP x=false∧vP y=false:=by
 cases d with
 |zero=>simp[vX] at h
 |succ d=>unfold vX at h;split at h<;>first|exact⟨rfl,rfl⟩|cases h
theorem Al {op:BinOp} {k k':IntKind} {t:TypeId} {m n:Int} {v:Value} (hv:J5 op k m n=some v):(binOp op t (.int k m) (.int k' n)).run P w= .ok v w∧∀ρ:gP,aD ρ v v:=by
 unfold J5 at hv
 split at hv
 ·cases hv
 ·rename_i hn
  split at hv
  ·cases hv;exact⟨by simp[binOp,Op.shift,hn],fun ρ=>by simp only[aD]⟩
  ·cases hv;exact⟨by simp[binOp,Op.shift,hn],fun ρ=>by simp only[aD]⟩
  ·cases hv
theorem ln {op:BinOp} {k:IntKind} {t:TypeId} {m n:Int} {v:Value} (hv:Ki op k m n=some v):(binOp op t (.int k m) (.int k n)).run P w= .ok v w∧∀ρ:gP,aD ρ v v:=by
 cases op<;>simp only[Ki,aCg,Option.map_some,Option.some.injEq] at hv<;>try cases hv
 case shl=>exact Al hv
 case shr=>exact Al hv
 case and=>exact⟨by simp[binOp,Op.intBits],fun ρ=>by simp only[aD]⟩
 case or=>exact⟨by simp[binOp,Op.intBits],fun ρ=>by simp only[aD]⟩
 case xor=>exact⟨by simp[binOp,Op.intBits],fun ρ=>by simp only[aD]⟩
 case andNot=>exact⟨by simp[binOp,Op.intBits],fun ρ=>by simp only[aD]⟩
 case add=>exact⟨by rw[binOp_add];rfl,fun ρ=>by simp only[aD]⟩
 case sub=>exact⟨by rw[binOp_sub];rfl,fun ρ=>by simp only[aD]⟩
 case mul=>exact⟨by rw[binOp_mul];rfl,fun ρ=>by simp only[aD]⟩
 case quo=>
  split at hv
  ·cases hv
  ·rename_i h;cases hv;exact⟨by rw[binOp_quo];simp[Op.intDiv,h],fun ρ=>by simp only[aD]⟩
 case rem=>
  split at hv
  ·cases hv
  ·rename_i h;cases hv;exact⟨by rw[binOp_rem];simp[Op.intDiv,h],fun ρ=>by simp only[aD]⟩
 case eql=>exact⟨by rw[binOp_eql];rfl,fun ρ=>by simp only[aD]⟩
 case neq=>exact⟨by rw[binOp_neq];rfl,fun ρ=>by simp only[aD]⟩
 case lss=>exact⟨by rw[binOp_lss];rfl,fun ρ=>by simp only[aD]⟩
 case leq=>exact⟨by rw[binOp_leq];rfl,fun ρ=>by simp only[aD]⟩
 case gtr=>exact⟨by rw[binOp_gtr];rfl,fun ρ=>by simp only[aD]⟩
 case geq=>exact⟨by rw[binOp_geq];rfl,fun ρ=>by simp only[aD]⟩
theorem qm {op:BinOp} {t:TypeId} {m n:ByteArray} {v:Value} (hv:uq op m n=some v):(binOp op t (.string m) (.string n)).run P w= .ok v w∧∀ρ:gP,aD ρ v v:=by
 cases op<;>simp only[uq,Option.some.injEq] at hv<;>try cases hv
 case add=>
  split at hv
  ·rename_i h
   cases hv
   refine⟨?_,fun ρ=>by simp only[aD]⟩
   have:¬(((m.size+n.size:Nat):Int)>IntKind.i64.max):=by rw[IntKind.max_i64];omega
   simp only[binOp,Op.stringOp]
   rw[if_neg this];rfl
  ·cases hv
 case eql=>exact⟨by simp[binOp,Op.stringOp],fun ρ=>by simp only[aD]⟩
 case neq=>exact⟨by simp[binOp,Op.stringOp],fun ρ=>by simp only[aD]⟩
 case lss=>exact⟨by simp[binOp,Op.stringOp],fun ρ=>by simp only[aD]⟩
theorem zO {t:TypeId} {a b a' b':Value} {r:Bool} (ha:aD ρ a a') (hb:aD ρ b b') (hq:vX P 10000 t a b=some r) (hni:∀k m k' n,¬(a= .int k m∧b= .int k' n)) (hns:∀m n,¬(a= .string m∧b= .string n)):
  (binOp .eql t a' b').run P w= .ok (.bool r) w∧(binOp .neq t a' b').run P w= .ok (.bool !r) w:=by
 have he:(Op.equal t a' b').run P w= .ok r w:=av 10000 t a b a' b' r ha hb hq
 obtain⟨h1,h2⟩:=As hq
 have key:∀op,(op=BinOp.eql∨op=BinOp.neq)→binOp op t a' b'=(if op= .eql then(do pure (.bool (←Op.equal t a' b')):Sem Value) else do pure (.bool (!(←Op.equal t a' b')))):=by
  intro op hop
  cases a with
  |chan r=>simp[vP] at h1
  |int k m=>
   simp only[aD] at ha;subst ha
   cases b with
   |int k' n=>grind
   |_=>
    unfold vX at hq
    grind
  |string m=>
   simp only[aD] at ha;subst ha
   cases b with
   |string n=>grind
   |_=>
    unfold vX at hq
    grind
  |float k m=>unfold vX at hq;grind
  |complex k m n=>unfold vX at hq;grind
  |tuple cs=>unfold vX at hq;grind
  |bool c=>simp only[aD] at ha;subst ha;rcases hop with rfl|rfl<;>simp[binOp]
  |nilFunc=>simp only[aD] at ha;subst ha;rcases hop with rfl|rfl<;>simp[binOp]
  |nilIface=>simp only[aD] at ha;subst ha;rcases hop with rfl|rfl<;>simp[binOp]
  |iface u v=>simp only[aD] at ha;obtain⟨_,_,rfl⟩:=ha;rcases hop with rfl|rfl<;>simp[binOp]
  |func fn f c=>simp only[aD] at ha;obtain⟨_,_,_,_,_,_,rfl⟩:=ha;rcases hop with rfl|rfl<;>simp[binOp]
  |agg cs=>simp only[aD] at ha;obtain⟨_,_,rfl⟩:=ha;rcases hop with rfl|rfl<;>simp[binOp]
  |pointer a=>cases a with
   |none=>simp only[aD] at ha;subst ha;rcases hop with rfl|rfl<;>simp[binOp]
   |some a=>simp only[aD] at ha;obtain⟨_,_,_,rfl⟩:=ha;rcases hop with rfl|rfl<;>simp[binOp]
  |map a=>cases a with
   |none=>simp only[aD] at ha;subst ha;rcases hop with rfl|rfl<;>simp[binOp]
   |some a=>simp only[aD] at ha;obtain⟨_,_,_,rfl⟩:=ha;rcases hop with rfl|rfl<;>simp[binOp]
  |slice a _ _=>cases a with
   |none=>simp only[aD] at ha;subst ha;rcases hop with rfl|rfl<;>simp[binOp]
   |some a=>
    obtain⟨_,_,sp⟩:=a
    cases sp with
    |none=>simp only[aD] at ha;obtain⟨_,_,_,_,_,_,rfl⟩:=ha;rcases hop with rfl|rfl<;>simp[binOp]
    |some _=>simp only[aD] at ha;obtain⟨_,_,_,_,_,_,rfl⟩:=ha;rcases hop with rfl|rfl<;>simp[binOp]
 simp_all
theorem Z3 {op:BinOp} {t:TypeId} {x y:Operand} {a b a' b' v:Value} (ha:aD ρ a a') (hb:aD ρ b b') (hv:M9 P op t x y a b=some v):
  ∃v',(do eqGuard op t x y a' b';binOp op t a' b':Sem Value).run P w= .ok v' w∧aD ρ v v':=by
 unfold M9 at hv
 split at hv
 ·rename_i k m k' n
  simp only[aD] at ha hb;subst ha;subst hb
  split at hv
  ·rename_i hk;subst hk
   obtain⟨h1,h2⟩:=ln (P:=P) (w:=w) (t:=t) hv
   exact⟨v,by simp only[Sem.run_bind,eqGuard_at_int,Sem.run_pure,Result.andThen_ok,h1],h2 ρ⟩
  ·obtain⟨h1,h2⟩:=Al (P:=P) (w:=w) (t:=t) (k':=k') hv
   exact⟨v,by simp only[Sem.run_bind,eqGuard_at_int,Sem.run_pure,Result.andThen_ok,h1],h2 ρ⟩
 ·rename_i m n
  simp only[aD] at ha hb;subst ha;subst hb
  obtain⟨h1,h2⟩:=qm (P:=P) (w:=w) (t:=t) hv
  exact⟨v,by simp only[Sem.run_bind,eqGuard_at_string,Sem.run_pure,Result.andThen_ok,h1],h2 ρ⟩
 ·rename_i hni hns
  have hni':∀k m k' n,¬(a= .int k m∧b= .int k' n):=fun k m k' n hh=>hni k m k' n hh.1 hh.2
  have hns':∀m n,¬(a= .string m∧b= .string n):=fun m n hh=>hns m n hh.1 hh.2
  split at hv
  ·split at hv
   ·rename_i hq
    simp only[Option.map_eq_some_iff] at hv
    obtain⟨r,hr,rfl⟩:=hv
    obtain⟨h1,h2⟩:=As hr
    refine⟨.bool r,?_,by simp only[aD]⟩
    simp only[Sem.run_bind,Mr ha hb h1 h2 hq,Result.andThen_ok,(zO ha hb hr hni' hns').1]
   ·cases hv
  ·split at hv
   ·rename_i hq
    simp only[Option.map_eq_some_iff] at hv
    obtain⟨r,hr,rfl⟩:=hv
    obtain⟨h1,h2⟩:=As hr
    refine⟨.bool !r,?_,by simp only[aD]⟩
    simp only[Sem.run_bind,Mr ha hb h1 h2 hq,Result.andThen_ok,(zO ha hb hr hni' hns').2]
   ·cases hv
  ·cases hv
end Go.Ab
end
section
namespace Go.Ab
open Go.RowKit
variable {P:Program} {B:Nat} {ρ:gP} {h:AH} {w:World}
theorem An {r:Nat} {o:Obj} (ho:w.heap[r]?=some o) (hc:∀c e f,o≠.cells c e f):(getObj r).run P w= .ok o w:=by
 simp only[getObj,Sem.run,ho]
theorem rC {r:Nat} {o o':Obj} (ho:w.heap[r]?=some o) (hc:∀c e f,o≠.cells c e f):(setObj r o').run P w= .ok () {w with heap:=w.heap.setIfInBounds r o'}:=by
 simp only[setObj,Sem.run,ho]
theorem nO {r:Nat} {es:Array MapEntry} {c:Nat} (ho:w.heap[r]?=some (.map es c)):(getObj r).run P w= .ok (.map es c) w:=
 An ho fun _ _ _ hh=>by cases hh
theorem uH {r:Nat} {es:Array MapEntry} {c:Nat} {o':Obj} (ho:w.heap[r]?=some (.map es c)):(setObj r o').run P w= .ok () {w with heap:=w.heap.setIfInBounds r o'}:=
 rC ho fun _ _ _ hh=>by cases hh
theorem Gn {t e:TypeId} (h:El P t=some e):∃key k,P.underlying t=some (.map key e)∧P.underlying key=some (.int k):=by
 unfold El at h
 grind
def Sn (ρ:gP):Option (Nat×Value)→Option (Nat×Value)→Prop
 |none,y=>y=none
 |some (i,v),y=>∃v',aD ρ v v'∧y=some (i,v')
theorem D3 {kk k:IntKind} {n:Int}:∀(es:List (Value×Value×Nat)) (es':List MapEntry) (i:Nat) (r:Option (Nat×Value)),iX ρ es es'→sV k n es i=some r→
  ∃r',Instr.findNow (.int kk) (.int k n) es' i=some r'∧Sn ρ r r'
 |[],es',i,r,he,hf=>by
  simp only[iX] at he;subst he
  simp only[sV,Option.some.injEq] at hf;subst hf
  exact⟨none,rfl,rfl⟩
 |(key,v,b)::es,es',i,r,he,hf=>by
  obtain⟨k',v',t,h1,h2,h3,rfl⟩:=he
  cases key with
  |int j m=>
   simp only[aD] at h1;subst h1
   simp only[sV] at hf
   split at hf
   ·rename_i hk
    subst hk
    split at hf
    ·rename_i hn
     simp only[Option.some.injEq] at hf;subst hf
     refine⟨some (i,v'),?_,v',h2,rfl⟩
     simp[Instr.findNow,Instr.sameNow,hn]
    ·rename_i hn
     obtain⟨r',hr,hrel⟩:=D3 (kk:=kk) es t (i+1) r h3 hf
     refine⟨r',?_,hrel⟩
     have:(n==m)=false:=by simpa using hn
     simp[Instr.findNow,Instr.sameNow,this,hr]
   ·cases hf
  |_=>simp[sV] at hf
theorem lX {kt:TypeId} {kk k:IntKind} {n:Int} (hk:P.underlying kt=some (.int kk)) {es:List (Value×Value×Nat)} {es':List MapEntry} {r:Option (Nat×Value)} (he:iX ρ es es') (hf:sV k n es 0=some r):
  ∃r',(Instr.findKey kt (.int k n) es').run P w= .ok r' w∧Sn ρ r r':=by
 obtain⟨r',hr,hrel⟩:=D3 (kk:=kk) es es' 0 r he hf
 refine⟨r',?_,hrel⟩
 simp only[Instr.findKey,Sem.run_bind,run_underlying hk,Result.andThen_ok,hr,Sem.run_pure]
theorem iQ {kt:TypeId} {kk k:IntKind} {n:Int} (hk:P.underlying kt=some (.int kk)) (e:Bool):(Instr.checkKey e 10000 kt (.int k n)).run P w= .ok () w:=by
 show(Instr.checkKey e (9999+1) kt (.int k n)).run P w= .ok () w
 rw[Instr.checkKey,Sem.run_bind,run_underlying hk]
 rfl
theorem fa {t:TypeId} {z:Value} (hz:zeroV P t=some z):(zeroValue t).run P w= .ok z w∧aD ρ z z:=by
 unfold zeroV at hz
 cases hi:P.info? t with
 |none=>simp[hi] at hz
 |some i=>
  cases hz0:i.zero with
  |none=>simp[hi,hz0] at hz
  |some z0=>
   simp only[hi,hz0,Option.bind_some] at hz
   split at hz
   ·rename_i hp
    cases hz
    exact⟨by simp[zeroValue,typeInfo,hi,hz0],gA _ hp⟩
   ·cases hz
theorem X2 (hi:Inv P B ρ h w) {x x':Value} {es:List (Value×Value×Nat)} (hx:aD ρ x x') (hm:Uw h x=some es):
  ∃es',iX ρ es es'∧((x'= .map none∧es'=[])∨∃r c,x'= .map (some r)∧w.heap[r]?=some (.map ⟨es'⟩ c)):=by
 unfold Uw at hm
 split at hm
 ·cases hm
  simp only[aD] at hx
  exact⟨[],rfl,.inl ⟨hx,rfl⟩⟩
 ·rename_i r
  split at hm
  ·rename_i es0 c hg
   cases hm
   simp only[aD] at hx
   obtain⟨b,s,hb,rfl⟩:=hx
   obtain⟨o',ho,es',hr,rfl⟩:=hi.pC _ _ hg b s hb
   grind
  ·cases hm
 ·cases hm
theorem Vp (hi:Inv P B ρ h w) {t:TypeId} {x x' ix ix' v:Value} {ok:Bool} (hx:aD ρ x x') (hix:aD ρ ix ix') (hv:rR P h t x ix ok=some v):
  ∃v',(Instr.lookup t x' ix' ok).run P w= .ok v' w∧aD ρ v v':=by
 unfold rR at hv
 split at hv
 ·rename_i e es k n hk hm
  obtain⟨key,kk,ht,hkt⟩:=Gn hk
  obtain⟨es',he,hx'⟩:=X2 hi hx hm
  simp only[aD] at hix;subst hix
  have fin:∀(r:Option (Nat×Value)) (r':Option (Nat×Value)),(Instr.findKey key (.int k n) es').run P w= .ok r' w→
    (Instr.lookup t x' (.int k n) ok).run P w=(match r' with
     |some (_,v)=>(.ok (if ok then .tuple #[v,.bool true] else v) w:Result Value)
     |none=>((zeroValue e).run P w).andThen fun z w=> .ok (if ok then .tuple #[z,.bool false] else z) w):=by
   intro r r' hf
   rcases hx' with⟨rfl,rfl⟩|⟨r,c,rfl,ho⟩
   ·unfold Instr.lookup
    simp only[Sem.run_bind,run_underlying ht,Result.andThen_ok,iQ hkt,hf,Sem.run_pure]
    cases r' with
    |some p=>rfl
    |none=>simp_all
   ·unfold Instr.lookup
    simp only[Sem.run_bind,run_underlying ht,Result.andThen_ok,nO ho,iQ hkt,hf,Sem.run_pure]
    cases r' with
    |some p=>rfl
    |none=>simp_all
  split at hv
  ·rename_i i v0 hf
   simp only[Option.some.injEq] at hv
   obtain⟨r',hr,v',hv',rfl⟩:=lX (w:=w) hkt he hf
   refine⟨_,fin none _ hr,?_⟩
   subst hv
   cases ok
   ·exact hv'
   ·show aD ρ (.tuple ⟨[v0,.bool true]⟩) (.tuple ⟨[v',.bool true]⟩)
    simp only[aD]
    exact⟨_,by simp only[jV];exact aT.cons hv' (aT.cons (by simp only[aD]) aT.nil),rfl⟩
  ·rename_i hf
   simp only[Option.map_eq_some_iff] at hv
   obtain⟨z,hz,hv⟩:=hv
   obtain⟨r',hr,hr'⟩:=lX (w:=w) hkt he hf
   simp only[Sn] at hr';subst hr'
   obtain⟨hzr,hzz⟩:=fa (w:=w) (ρ:=ρ) hz
   refine⟨_,by rw[fin none _ hr,hzr];rfl,?_⟩
   subst hv
   cases ok
   ·exact hzz
   ·show aD ρ (.tuple ⟨[z,.bool false]⟩) (.tuple ⟨[z,.bool false]⟩)
    simp only[aD]
    exact⟨_,by simp only[jV];exact aT.cons hzz (aT.cons (by simp only[aD]) aT.nil),rfl⟩
  ·cases hv
 ·cases hv
theorem iX.length:∀{es:List (Value×Value×Nat)} {es':List MapEntry},iX ρ es es'→es.length=es'.length
 |[],_,he=>by simp only[iX] at he;subst he;rfl
 |(_,_,_)::es,_,⟨_,_,t,_,_,h3,rfl⟩=>by simp[iX.length h3]
theorem iX.snoc:∀{es:List (Value×Value×Nat)} {es':List MapEntry} {k k' v v':Value} {c:Nat},iX ρ es es'→aD ρ k k'→aD ρ v v'→
  iX ρ (es++[(k,v,c)]) (es'++[{key:=k',val:=v',born:=c}])
 |[],_,k,k',v,v',c,he,hk,hv=>by simp only[iX] at he;subst he;exact⟨k',v',[],hk,hv,rfl,rfl⟩
 |(_,_,_)::es,_,k,k',v,v',c,⟨k1,v1,t,h1,h2,h3,rfl⟩,hk,hv=>⟨k1,v1,_,h1,h2,iX.snoc h3 hk hv,rfl⟩
theorem iX.erase:∀{es:List (Value×Value×Nat)} {es':List MapEntry} (i:Nat),iX ρ es es'→iX ρ (es.eraseIdx i) (es'.eraseIdx i)
 |[],_,i,he=>by simp only[iX] at he;subst he;simp[iX]
 |(_,_,_)::es,_,0,⟨_,_,t,h1,h2,h3,rfl⟩=>h3
 |(_,_,_)::es,_,i+1,⟨k1,v1,t,h1,h2,h3,rfl⟩=>⟨k1,v1,_,h1,h2,iX.erase i h3,rfl⟩
theorem iX.mod:∀{es:List (Value×Value×Nat)} {es':List MapEntry} (i:Nat) {k k' v v':Value},iX ρ es es'→aD ρ k k'→aD ρ v v'→
  iX ρ (es.modify i fun e=>(k,v,e.2.2)) (es'.modify i fun e=>{e with key:=k',val:=v'})
 |[],_,i,k,k',v,v',he,_,_=>by simp only[iX] at he;subst he;simp[iX]
 |(_,_,_)::es,_,0,k,k',v,v',⟨_,_,t,h1,h2,h3,rfl⟩,hk,hv=>⟨k',v',t,hk,hv,h3,rfl⟩
 |(_,_,_)::es,_,i+1,k,k',v,v',⟨k1,v1,t,h1,h2,h3,rfl⟩,hk,hv=>⟨k1,v1,_,h1,h2,iX.mod i h3 hk hv,rfl⟩
theorem Fb {kk k:IntKind} {n:Int}:∀(es':List MapEntry) (i:Nat) {j:Nat} {v:Value},Instr.findNow (.int kk) (.int k n) es' i=some (some (j,v))→i≤j∧∃e,es'[j - i]?=some e∧e.key= .int k n
 |[],i,j,v,h=>by simp[Instr.findNow] at h
 |e::es,i,j,v,h=>by
  simp only[Instr.findNow] at h
  split at h
  ·rename_i hs
   simp only[Option.some.injEq,Prod.mk.injEq] at h
   obtain⟨rfl,rfl⟩:=h
   refine⟨Nat.le_refl _,e,by simp,?_⟩
   cases hk:e.key with
   |int j m=>
    rw[hk] at hs
    simp only[Instr.sameNow] at hs
    grind
   |_=>rw[hk] at hs;simp[Instr.sameNow] at hs
  ·obtain⟨h1,e',h2,h3⟩:=Fb es (i+1) h
   grind
  ·cases h
theorem H2 (hi:Inv P B ρ h w) {argTypes:Array TypeId} {ty t k e:TypeId} {x x':Value} {es:List (Value×Value×Nat)} (h0:argTypes[0]?=some t) (hd:P.underlying t=some (.map k e)) (hx:aD ρ x x') (hm:Uw h x=some es):
  (Builtin.len_ argTypes ty #[x']).run P w= .ok (goInt es.length) w:=by
 obtain⟨es',he,⟨rfl,rfl⟩|⟨r,c,rfl,ho⟩⟩:=X2 hi hx hm
 ·have:=he.length
  simp[Builtin.len_,h0,run_underlying hd,this]
 ·have:=he.length
  simp[Builtin.len_,h0,run_underlying hd,nO ho,this]
theorem Wd (hi:Inv P B ρ h w) {t:TypeId} {m m' k k' x x':Value} {h2:AH} (hm:aD ρ m m') (hk:aD ρ k k') (hx:aD ρ x x') (hv:yD P h t m k x=some h2):
  ∃w',(Instr.mapUpdate t m' k' x').run P w= .ok () w'∧jT P B ρ h w ρ h2 w':=by
 unfold yD at hv
 split at hv
 ·rename_i e r kd n hkey
  obtain⟨key,kk,ht,hkt⟩:=Gn hkey
  split at hv
  ·cases hv
  ·rename_i hbase
   split at hv
   ·rename_i es clock hg
    simp only[Option.map_eq_some_iff] at hv
    obtain⟨o,ho,rfl⟩:=hv
    simp only[aD] at hm hk
    subst hk
    obtain⟨b,s,hb,rfl⟩:=hm
    obtain⟨o',ho',es',he,rfl⟩:=hi.pC _ _ hg b s hb
    unfold ui at ho
    split at ho
    ·rename_i i v0 hf
     simp only[Option.some.injEq] at ho;subst ho
     obtain⟨r',hr,v',_,rfl⟩:=lX (w:=w) hkt he hf
     obtain⟨r2,hr2,v2,_,rfl⟩:=D3 (kk:=kk) es es' 0 _ he hf
     obtain⟨_,e',he',hek⟩:=Fb es' 0 hr2
     simp only[Nat.sub_zero] at he'
     have hstay:(Instr.keyThatStays (.int kd n) (.int kd n)).run P w= .ok (.int kd n) w:=by
      simp[Instr.keyThatStays,Instr.sameBits]
     refine⟨{w with heap:=w.heap.setIfInBounds b (.map ((⟨es'⟩:Array MapEntry).modify i fun e=>{e with key:= .int kd n,val:=x'}) clock)},?_,?_⟩
     ·unfold Instr.mapUpdate
      simp only[Sem.run_bind,run_underlying ht,Result.andThen_ok,nO ho',iQ hkt,hr]
      rw[show((⟨es'⟩:Array MapEntry)[i]?).map (·.key)=some (.int kd n) by grind]
      simp only[Option.getD_some,hstay,Result.andThen_ok,uH ho']
     ·refine uB hi (by omega) hg hb ?_ rfl rfl rfl rfl
      refine⟨_,iX.mod i he (k':= .int kd n) (v':=x') (by simp only[aD]) hx,?_⟩
      grind
    ·rename_i hf
     simp only[Option.some.injEq] at ho;subst ho
     obtain⟨r',hr,hr'⟩:=lX (w:=w) hkt he hf
     simp only[Sn] at hr';subst hr'
     refine⟨{w with heap:=w.heap.setIfInBounds b (.map ((⟨es'⟩:Array MapEntry).push {key:= .int kd n,val:=x',born:=clock}) (clock+1))},?_,?_⟩
     ·unfold Instr.mapUpdate
      simp only[Sem.run_bind,run_underlying ht,Result.andThen_ok,nO ho',iQ hkt,hr,uH ho']
     ·refine uB hi (by omega) hg hb ?_ rfl rfl rfl rfl
      refine⟨_,iX.snoc he (k':= .int kd n) (v':=x') (by simp only[aD]) hx,?_⟩
      simp
    ·cases ho
   ·cases hv
 ·cases hv
theorem T7 (hi:Inv P B ρ h w) {argTypes:Array TypeId} {ty t:TypeId} {m m' k k':Value} {h2:AH} (h0:argTypes[0]?=some t) (hm:aD ρ m m') (hk:aD ρ k k') (hv:C6 P h t m k=some h2):
  ∃w',(Builtin.delete_ argTypes ty ⟨[m',k']⟩).run P w= .ok (.tuple #[]) w'∧jT P B ρ h w ρ h2 w':=by
 unfold C6 at hv
 split at hv
 ·rename_i e kd n hkey
  obtain⟨key,kk,ht,hkt⟩:=Gn hkey
  cases hv
  simp only[aD] at hm hk
  subst hm hk
  exact⟨w,by simp[Builtin.delete_,h0,run_underlying ht,iQ hkt],jT.refl hi⟩
 ·rename_i e r kd n hkey
  obtain⟨key,kk,ht,hkt⟩:=Gn hkey
  split at hv
  ·cases hv
  ·rename_i hbase
   split at hv
   ·rename_i es clock hg
    simp only[aD] at hm hk
    subst hk
    obtain⟨b,s,hb,rfl⟩:=hm
    obtain⟨o',ho',es',he,rfl⟩:=hi.pC _ _ hg b s hb
    split at hv
    ·rename_i i v0 hf
     simp only[Option.some.injEq] at hv;subst hv
     obtain⟨r',hr,v',_,rfl⟩:=lX (w:=w) hkt he hf
     refine⟨{w with heap:=w.heap.setIfInBounds b (.map ((⟨es'⟩:Array MapEntry).eraseIdxIfInBounds i) clock)},?_,?_⟩
     ·simp[Builtin.delete_,h0,run_underlying ht,iQ hkt,nO ho',hr,uH ho']
     ·refine uB hi (by omega) hg hb ?_ rfl rfl rfl rfl
      refine⟨_,iX.erase i he,?_⟩
      grind
    ·rename_i hf
     simp only[Option.some.injEq] at hv;subst hv
     obtain⟨r',hr,hr'⟩:=lX (w:=w) hkt he hf
     simp only[Sn] at hr';subst hr'
     refine⟨{w with heap:=w.heap.setIfInBounds b (.map ⟨es'⟩ clock)},?_,?_⟩
     ·simp[Builtin.delete_,h0,run_underlying ht,iQ hkt,nO ho',hr,uH ho']
     ·exact uB hi (by omega) hg hb ⟨_,he,rfl⟩ rfl rfl rfl rfl
    ·cases hv
   ·cases hv
 ·cases hv
end Go.Ab
end
section
namespace Go.Ab
open Go.RowKit
variable {P:Program} {B:Nat} {ρ:gP} {h:AH} {w:World}
theorem jV.map {α:Type} {f g:α→Value} (hfg:∀x,aD ρ (f x) (g x)) (a:Array α):jV ρ (a.map f) (a.map g):=by
 rw[hM];simp only[Array.toList_map];exact aT.Az hfg _
theorem Rv {x x' v:Value} (hx:aD ρ x x') (hv:strOf h x=some v):∃a n c,x'= .slice a n c:=by
 unfold strOf at hv
 split at hv
 ·simp only[aD] at hx;grind
 ·rename_i a n c
  obtain⟨_,_,sp⟩:=a
  cases sp with
  |none=>simp only[aD] at hx;grind
  |some _=>simp only[aD] at hx;grind
 ·cases hv
theorem G6 {f:Value→ByteArray→Sem (ForInStep ByteArray)} (hf:∀n s,f (.int .u8 n) s=pure (.yield (s.push (UInt8.ofNat n.toNat)))):∀(l l':List Value) (bs:List UInt8) (s:ByteArray),aT ρ l l'→xE l=some bs→
  (forIn (m:=Sem) l' s f).run P w= .ok ⟨⟨s.data.toList++bs⟩⟩ w
 |[],l',bs,s,hl,hb=>by
  simp only[aT] at hl;subst hl
  simp only[xE,Option.some.injEq] at hb;subst hb
  simp
 |v::l,l',bs,s,hl,hb=>by
  simp only[aT] at hl
  obtain⟨v',t',h1,h2,rfl⟩:=hl
  simp only[xE] at hb
  split at hb
  ·rename_i b r hb1 hb2
   cases hb
   unfold byteOf at hb1
   split at hb1
   ·cases hb1
    simp only[aD] at h1;subst h1
    simp only[List.forIn_cons,Sem.run_bind,hf,Sem.run_pure,Result.andThen_ok]
    rw[G6 hf l t' r _ h2 hb2]
    simp
   ·cases hb1
  ·cases hb
theorem Zc (hi:Inv P B ρ h w) {x x' v:Value} (hx:aD ρ x x') (hv:strOf h x=some v):∃v',(Conv.bytesToString x').run P w= .ok v' w∧aD ρ v v':=by
 unfold strOf at hv
 split at hv
 ·cases hv;simp only[aD] at hx;subst hx;exact⟨.string .empty,by simp[Conv.bytesToString],by simp only[aD]⟩
 ·rename_i a n c
  split at hv
  ·rename_i hn
   subst hn
   cases hv
   refine⟨.string .empty,?_,by simp only[aD]⟩
   obtain⟨_,_,sp⟩:=a
   cases sp with
   |none=>simp only[aD] at hx;obtain⟨_,_,_,_,_,_,rfl⟩:=hx;simp[Conv.bytesToString,loadCells,loadCellsFrom]
   |some _=>simp only[aD] at hx;obtain⟨_,_,_,_,_,_,rfl⟩:=hx;simp[Conv.bytesToString,loadCells,loadCellsFrom]
  ·simp only[Option.map_eq_some_iff,Option.bind_eq_some_iff] at hv
   obtain⟨bs,⟨l,hl,hb⟩,rfl⟩:=hv
   obtain⟨i,o,sp⟩:=a
   cases sp with
   |some _=>simp[cF] at hl
   |none=>
    simp only[aD] at hx;obtain⟨b,s,c',hr,_,_,rfl⟩:=hx
    obtain⟨l',hrun,hrel,_,_⟩:=oH hi (a:=⟨i,o,none⟩) hr hl
    refine⟨.string ⟨⟨bs⟩⟩,?_,by simp only[aD]⟩
    simp only[Conv.bytesToString,Sem.run_bind,hrun,Result.andThen_ok]
    rw[←Array.forIn_toList]
    simp only[Sem.run_pure]
    rw[G6 (P:=P) (w:=w) (fun n s=>by rfl) l l' bs .empty hrel hb]
    rfl
 ·cases hv
set_option maxHeartbeats 1000000 in
theorem Fg (hi:Inv P B ρ h w) {ev ev':Operand→Value} (hev:∀x,aD ρ (ev x) (ev' x)) (o:Oper) {v:Value} (hv:bL P ev h o.op=some v):
  ∃v',(execOp ev' o).run P w= .ok (.value v') w∧aD ρ v v':=by
 obtain⟨dst,op,ty,pos,after,guard⟩:=o
 simp only at hv
 cases op with
 |move x=>simp only[bL,Option.some.injEq] at hv;subst hv;exact⟨_,rfl,hev x⟩
 |assign x=>simp only[bL,Option.some.injEq] at hv;subst hv;exact⟨_,rfl,hev x⟩
 |pick c a b=>
  simp only[bL] at hv
  split at hv
  ·rename_i t hc
   have h1:=hev c
   rw[hc] at h1
   simp only[aD] at h1
   simp only[Option.some.injEq] at hv;subst hv
   refine⟨if t then ev' a else ev' b,?_,by cases t<;>simp[hev]⟩
   simp[execOp,h1,asBool]
  ·cases hv
 |build t parts=>
  simp only[bL] at hv
  obtain⟨v',hr,hrel⟩:=Q6 (w:=w) (parts':=parts.map fun p=>(p.1,ev' p.2)) (by
   simp only[Array.toList_map];exact Kp.map (f:=fun p:Nat×Operand=>ev p.2) (g:=fun p=>ev' p.2) (k:=fun p=>p.1) (fun p=>hev p.2) _) hv
  refine⟨v',?_,hrel⟩
  show(do pure (Next.value (←Instr.build t (parts.map fun(i,x)=>(i,ev' x)))):Sem Next).run P w=_
  simp_all
 |load t a=>
  simp only[bL] at hv
  split at hv
  ·rename_i a0 ha
   have h1:=hev a
   rw[ha] at h1
   obtain⟨v',hr,hrel⟩:=Ib hi h1 hv
   exact⟨v',by simp[execOp,hr],hrel⟩
  ·cases hv
 |nilCheck x=>
  simp only[bL] at hv
  split at hv
  ·rename_i a ha
   have h1:=hev x
   rw[ha] at h1
   simp only[Option.some.injEq] at hv;subst hv
   have h2:=h1
   simp only[aD] at h1
   obtain⟨b,s,hb,he⟩:=h1
   exact⟨ev' x,by simp[execOp,he],h2⟩
  ·rename_i f a b ha
   have h1:=hev x
   rw[ha] at h1
   simp only[Option.some.injEq] at hv;subst hv
   have h2:=h1
   simp only[aD,B3] at h1
   obtain⟨_,_,_,rfl,_,_,he⟩:=h1
   exact⟨ev' x,by simp[execOp,he],h2⟩
  ·rename_i f a b ha
   have h1:=hev x
   rw[ha] at h1
   simp only[Option.some.injEq] at hv;subst hv
   have h2:=h1
   simp only[aD,B3] at h1
   obtain⟨_,_,_,⟨_,_,_,rfl⟩,_,_,he⟩:=h1
   exact⟨ev' x,by simp[execOp,he],h2⟩
  ·cases hv
 |binOp op t x y yt=>
  simp only[bL] at hv
  obtain⟨v',hr,hrel⟩:=Z3 (P:=P) (w:=w) (hev x) (hev y) hv
  refine⟨v',?_,hrel⟩
  show(do pure (Next.value (←(do eqGuard op t x y (ev' x) (ev' y);binOp op t (ev' x) (ev' y)))):Sem Next).run P w=_
  rw[Sem.run_bind,hr]
  rfl
 |unOp op t x=>
  simp only[bL] at hv
  split at hv
  ·rename_i k n hx
   have h1:=hev x
   rw[hx] at h1
   simp only[aD] at h1
   simp only[Option.some.injEq] at hv;subst hv
   exact⟨.int k (k.wrap (0 - n)),by simp[execOp,h1,Op.unary,Op.intArith],by simp only[aD]⟩
  ·rename_i b hx
   have h1:=hev x
   rw[hx] at h1
   simp only[aD] at h1
   simp only[Option.some.injEq] at hv;subst hv
   exact⟨.bool !b,by simp[execOp,h1,Op.unary],by simp only[aD]⟩
  ·cases hv
 |convert s d x=>
  simp only[bL] at hv
  split at hv
  ·rename_i ds k _ n hs hd hx
   have h1:=hev x
   rw[hx] at h1
   simp only[aD] at h1
   simp only[Option.some.injEq] at hv;subst hv
   exact⟨.int k (k.wrap n),by simp[execOp,h1,convert,run_underlying hs,run_underlying hd,Conv.intToInt],by simp only[aD]⟩
  ·rename_i z hs hd hx
   have h1:=hev x
   rw[hx] at h1
   simp only[aD] at h1
   simp only[Option.some.injEq] at hv;subst hv
   exact⟨.string z,by simp[execOp,h1,convert,run_underlying hs,run_underlying hd],by simp only[aD]⟩
  ·rename_i e hs hd
   split at hv
   ·rename_i he
    obtain⟨v',hr,hrel⟩:=Zc hi (hev x) hv
    refine⟨v',?_,hrel⟩
    have hcv:(convert s d (ev' x)).run P w= .ok v' w:=by
     obtain⟨a,n,c,hx⟩:=Rv (hev x) hv
     rw[hx] at hr ⊢
     simp[convert,run_underlying hs,run_underlying hd,run_underlying he,hr]
    simp[execOp,hcv]
   ·cases hv
  ·cases hv
 |makeInterface t x=>
  simp only[bL] at hv
  split at hv
  ·cases hv
  ·rename_i d hd hni
   simp only[Option.some.injEq] at hv;subst hv
   refine⟨.iface t (ev' x),?_,by simp only[aD];exact⟨_,hev x,rfl⟩⟩
   have:P.concrete t=true:=by
    unfold Program.concrete
    rw[hni]
    cases d<;>grind
   simp[execOp,run_makeInterface w t (ev' x) this]
  ·cases hv
 |makeFunc fn first captured=>
  simp only[bL] at hv
  split at hv
  ·rename_i f
   simp only[Option.some.injEq] at hv;subst hv
   refine⟨.func (.func f) (first.map ev') (captured.map ev'),by simp[execOp,Instr.makeFunc],?_⟩
   simp only[aD,B3]
   exact⟨_,_,_,rfl,jV.map hev _,jV.map hev _,rfl⟩
  ·cases hv
 |slice t x lo hi_ mx=>
  simp only[bL] at hv
  obtain⟨v',hr,hrel⟩:=Tm hi (hev x) (xC.map hev lo) (xC.map hev hi_) (xC.map hev mx) hv
  exact⟨v',by simp[execOp,hr],hrel⟩
 |fieldAddr s x f=>
  simp only[bL] at hv
  split at hv
  ·rename_i fs a hd hx
   have h1:=hev x
   rw[hx] at h1
   simp only[aD] at h1
   obtain⟨b,sp,hb,he⟩:=h1
   split at hv
   ·rename_i fd hf
    split at hv
    ·cases hv
    ·rename_i hn
     simp only[Option.some.injEq] at hv;subst hv
     obtain⟨i,hinf,_⟩:=Ko hn
     refine⟨.pointer (some (Addr.add ⟨b,a.off+sp.2,a.spot⟩ fd.offset)),?_,?_⟩
     ·simp[execOp,he,Instr.fieldAt,run_underlying hd,hf,Instr.sureAddr,fieldPlace,fD hinf,hn]
     ·simp only[aD]
      refine⟨b,sp,?_,?_⟩
      ·unfold Addr.add;split<;>exact hb
      ·unfold Addr.add;grind
   ·cases hv
  ·cases hv
 |field t x f=>
  simp only[bL] at hv
  split at hv
  ·rename_i fs cs hd hx
   have h1:=hev x
   rw[hx] at h1
   simp only[aD] at h1
   obtain⟨cs',hc,he⟩:=h1
   split at hv
   ·rename_i fd hf
    obtain⟨v',hr,hrel⟩:=tS (P:=P) (w:=w) hv (hM.1 hc)
    exact⟨v',by simp[execOp,he,Instr.field,run_underlying hd,hf,asAgg,hr],hrel⟩
   ·cases hv
  ·cases hv
 |indexAddr t x i=>
  simp only[bL] at hv
  split at hv
  ·rename_i n e a k j hd hx hix
   have h1:=hev x
   have h2:=hev i
   rw[hx] at h1
   rw[hix] at h2
   simp only[aD] at h1 h2
   obtain⟨b,sp,hb,he⟩:=h1
   split at hv
   ·rename_i hc
    simp only[Option.some.injEq] at hv;subst hv
    obtain⟨inf,hinf⟩:=Option.isSome_iff_exists.1 hc.2.2
    refine⟨.pointer (some (Addr.add ⟨b,a.off+sp.2,a.spot⟩ (j.toNat*P.cellsOf e))),?_,?_⟩
    ·simp[execOp,he,h2,Instr.indexAt,asIntOf,run_underlying hd,Instr.sureAddr,hc.1,hc.2.1,fD hinf]
    ·simp only[aD]
     refine⟨b,sp,?_,?_⟩
     ·unfold Addr.add;split<;>exact hb
     ·unfold Addr.add;grind
   ·cases hv
  ·rename_i e a n c k j hd hx hix
   have h1:=hev x
   have h2:=hev i
   rw[hx] at h1
   rw[hix] at h2
   split at hv
   ·rename_i hc
    obtain⟨ab,ao,asp⟩:=a
    obtain rfl:asp=none:=hc.2.2.2
    simp only[aD] at h1 h2
    obtain⟨b,sp,c',hb,_,_,he⟩:=h1
    simp only[Option.some.injEq] at hv;subst hv
    obtain⟨inf,hinf⟩:=Option.isSome_iff_exists.1 hc.2.2.1
    refine⟨.pointer (some (Addr.add ⟨b,ao+sp.2,none⟩ (j.toNat*P.cellsOf e))),?_,?_⟩
    ·simp[execOp,he,h2,Instr.indexAt,asIntOf,run_underlying hd,hc.1,hc.2.1,fD hinf]
    ·rw[cQ,cQ]
     simp only[aD]
     grind
   ·cases hv
  ·cases hv
 |index t x i=>
  simp only[bL] at hv
  split at hv
  ·rename_i n e cs k j hd hx hix
   have h1:=hev x
   have h2:=hev i
   rw[hx] at h1
   rw[hix] at h2
   simp only[aD] at h1 h2
   obtain⟨cs',hc',he⟩:=h1
   split at hv
   ·rename_i hc
    obtain⟨inf,hinf⟩:=Option.isSome_iff_exists.1 hc.2.2
    obtain⟨v',hr,hrel⟩:=tS (P:=P) (w:=w) hv (hM.1 hc')
    exact⟨v',by simp[execOp,he,h2,Instr.index,asIntOf,run_underlying hd,hc.1,hc.2.1,fD hinf,hr],hrel⟩
   ·cases hv
  ·rename_i s k j hd hx hix
   have h1:=hev x
   have h2:=hev i
   rw[hx] at h1
   rw[hix] at h2
   simp only[aD] at h1 h2
   split at hv
   ·rename_i hc
    simp only[Option.map_eq_some_iff] at hv
    obtain⟨u,hu,rfl⟩:=hv
    exact⟨.int .u8 u.toNat,by simp[execOp,h1,h2,Instr.index,asIntOf,run_underlying hd,hc,hu],by simp only[aD]⟩
   ·cases hv
  ·cases hv
 |extract t i=>
  simp only[bL] at hv
  split at hv
  ·rename_i vs ht
   have h1:=hev t
   rw[ht] at h1
   simp only[aD] at h1
   obtain⟨vs',hc,he⟩:=h1
   obtain⟨v',hv',hrel⟩:=(hM.1 hc).get hv
   exact⟨v',by simp only[Array.getElem?_toList] at hv';simp[execOp,he,Instr.extract,hv'],hrel⟩
  ·cases hv
 |lookup t x ix ok=>
  simp only[bL] at hv
  obtain⟨v',hr,hrel⟩:=Vp hi (hev x) (hev ix) hv
  exact⟨v',by simp[execOp,hr],hrel⟩
 |_=>simp only[bL] at hv;cases hv
theorem uU (f:Nat→Value):(Array.range 0).map f= #[]:=by grind
theorem uG {z:List Value} {size:Nat} (hz:z.length=size) (n:Nat):((Array.range (n*size)).map fun i=>(⟨z⟩:Array Value)[i % (⟨z⟩:Array Value).size]!)=⟨eB z n⟩:=by
 apply Array.ext'
 simp only[Array.toList_map,Array.toList_range]
 show(List.range (n*size)).map (fun i=>(⟨z⟩:Array Value)[i % z.length]!)=eB z n
 subst hz
 induction n with
 |zero=>simp[eB]
 |succ n ih=>
  rw[Nat.succ_mul,List.range_add,List.map_append,ih]
  unfold eB
  rw[List.replicate_succ',List.flatten_append]
  congr 1
  simp only[List.flatten_cons,List.flatten_nil,List.append_nil,List.map_map]
  apply List.ext_getElem
  ·simp
  ·intro j h1 h2
   simp at h1 h2
   simp only[List.getElem_map,List.getElem_range,Function.comp]
   have hm:(n*z.length+j) % z.length=j:=by rw[Nat.mul_comm,Nat.mul_add_mod,Nat.mod_eq_of_lt (by omega)]
   grind
theorem A7 {z:List Value} (hz:aT ρ z z) (n:Nat):aT ρ (eB z n) (eB z n):=by
 unfold eB
 induction n with
 |zero=>exact aT.nil
 |succ n ih=>rw[List.replicate_succ,List.flatten_cons];exact hz.append ih
theorem Fc {ev ev':Operand→Value} (hev:∀x,aD ρ (ev x) (ev' x)) (o:Oper) {b:kY} {f:Nat→Value} (hv:dW P ev o.op=some (b,f)):
  ∃(o':Obj) (g:Nat→Value),rN P ρ (0,0) b o'∧(execOp ev' o).run P w= .ok (.value (g w.heap.size)) (w.alloc o')∧∀(ρ':gP) i s,s.2=0→ρ' i=some (w.heap.size,s)→aD ρ' (f i) (g w.heap.size):=by
 obtain⟨dst,op,ty,pos,after,guard⟩:=o
 simp only at hv
 cases op with
 |alloc e=>
  simp only[dW,Option.map_eq_some_iff] at hv
  obtain⟨z,hz,hv⟩:=hv
  cases hv
  obtain⟨i,zv,hi,_,hzr,hzc,hzl,hzz⟩:=qM (w:=w) hz
  refine⟨.cells zv.cells e,fun n=> .pointer (some ⟨n,0,none⟩),⟨zv.cells,rfl,?_,?_,fun _=>⟨rfl,rfl⟩⟩,?_,?_⟩
  ·simp only[List.drop_zero];rw[hzc,List.take_of_length_le (Nat.le_refl _)];exact hzz ρ
  ·rw[←hzc];simp
  ·simp[execOp,Instr.alloc,hzr,newVar,newRow]
  ·intro ρ' i s hs hr;simp only[aD];exact⟨_,_,hr,by rw[hs]⟩
 |box e x=>
  simp only[dW,Option.map_eq_some_iff] at hv
  obtain⟨l,hl,hv⟩:=hv
  cases hv
  unfold hQ at hl
  split at hl
  ·cases hl
  ·rename_i ht
   cases hl
   have hc:=(hev x).cells (by simpa using ht)
   have hcl:=hc.length
   refine⟨.cells (ev' x).cells e,fun n=> .pointer (some ⟨n,0,none⟩),⟨_,rfl,?_,?_,fun _=>⟨rfl,rfl⟩⟩,?_,?_⟩
   ·grind
   ·grind
   ·simp[execOp,Instr.box,newVar,newRow]
   ·intro ρ' i s hs hr;simp only[aD];exact⟨_,_,hr,by rw[hs]⟩
 |buildSlice t len parts=>
  simp only[dW] at hv
  split at hv
  ·rename_i e hd
   split at hv
   ·rename_i z hz
    obtain⟨i,zv,hi,_,hzr,hzc,hzl,hzz⟩:=qM (w:=w) hz
    split at hv
    ·rename_i hle
     simp only[Option.map_eq_some_iff] at hv
     obtain⟨l,hl,hv⟩:=hv
     cases hv
     obtain⟨r',hr',hrel⟩:=Bq _ (parts.map fun p=>(p.1,ev' p.2)).toList _ _ l (by
      simp only[Array.toList_map];exact Kp.map (f:=fun p:Nat×Operand=>ev p.2) (g:=fun p=>ev' p.2) (k:=fun p=>p.1) (fun p=>hev p.2) _) (A7 (hzz ρ) len) hl
     have hrl:=hrel.length
     have hz':zv.cells=⟨z⟩:=by rw[←hzc]
     refine⟨.cells ⟨r'⟩ e,fun n=> .slice (some ⟨n,0,none⟩) len len,⟨_,rfl,?_,?_,fun _=>⟨rfl,rfl⟩⟩,?_,?_⟩
     ·grind
     ·show 0+l.length+0*_≤r'.length;omega
     ·have hle':¬len*P.cellsOf e>2^24:=by omega
      have hr2:Instr.fill (fun i=>some (i*P.cellsOf e,P.cellsOf e)) ⟨eB z len⟩ (parts.map fun(x:Nat×Operand)=>(x.1,ev' x.2)).toList=some ⟨r'⟩:=hr'
      show(do pure (Next.value (←Instr.buildSlice t len (parts.map fun(i,x)=>(i,ev' x)))):Sem Next).run P w=_
      simp only[Instr.buildSlice,Sem.run_bind,run_underlying hd,Result.andThen_ok,fD hi,hle',if_false]
      have hc:=uG hzl len
      by_cases h0:len*P.cellsOf e=0
      ·have hnil:(⟨eB z len⟩:Array Value)= #[]:=by rw[←hc,h0,uU]
       rw[hnil] at hr2
       simp only[h0,if_true,Sem.run_bind,Sem.run_pure,Result.andThen_ok]
       rw[uU,hr2]
       simp[newRow]
      ·simp only[h0,if_false,Sem.run_bind,hzr,Sem.run_pure,Result.andThen_ok,hz']
       rw[hc,hr2]
       simp[newRow]
     ·intro ρ' i s hs hr;simp only[aD];exact⟨_,_,_,hr,Nat.le_refl _,Nat.le_add_right _ _,by rw[hs]⟩
    ·cases hv
   ·cases hv
  ·cases hv
 |makeSlice t l c=>
  simp only[dW] at hv
  split at hv
  ·rename_i e k1 ll k2 cc hd hl hc
   split at hv
   ·rename_i z hz
    obtain⟨i,zv,hi,_,hzr,hzc,hzl,hzz⟩:=qM (w:=w) hz
    split at hv
    ·rename_i hcond
     obtain⟨h0,h1,h2,h3⟩:=hcond
     simp only[Option.some.injEq,Prod.mk.injEq] at hv
     obtain⟨rfl,rfl⟩:=hv
     have hl':=hev l
     have hc':=hev c
     rw[hl] at hl'
     rw[hc] at hc'
     simp only[aD] at hl' hc'
     have hz':zv.cells=⟨z⟩:=by rw[←hzc]
     have hb:i.bytes=P.bytesOf e:=by simp[Program.bytesOf,hi]
     refine⟨.cells ⟨eB z cc.toNat⟩ e,fun n=> .slice (some ⟨n,0,none⟩) ll.toNat cc.toNat,⟨_,rfl,?_,?_,fun _=>⟨rfl,rfl⟩⟩,?_,?_⟩
     ·simp only[List.drop_zero];rw[List.take_of_length_le (Nat.le_refl _)];exact A7 (hzz ρ) _
     ·show 0+(eB z cc.toNat).length+0*_≤(eB z cc.toNat).length;omega
     ·have hwl:IntKind.i64.wrap ll=ll:=IntWalk.i64_in _ ⟨by omega,by omega⟩
      have hwc:IntKind.i64.wrap cc=cc:=IntWalk.i64_in _ ⟨by omega,by omega⟩
      have t1:(typeInfo e).run P w= .ok i w:=by simp[typeInfo,hi]
      have hno:((decide (cc<0)||decide ((i.bytes:Int)*cc>2^48))||decide (ll<0)||decide (ll>cc))=false:=by
       grind
      simp only[execOp,hl',hc',Instr.makeSlice,Sem.run_bind,run_underlying hd,Result.andThen_ok,asInt,asIntOf,Sem.run_pure,t1,hwl,hwc,hno,Bool.false_eq_true,if_false,run_askRoom,fD hi]
      have hcz:=uG hzl cc.toNat
      by_cases h0:cc.toNat*P.cellsOf e=0
      ·have hnil:(⟨eB z cc.toNat⟩:Array Value)= #[]:=by rw[←hcz,h0,uU]
       rw[hnil]
       simp only[h0,if_true,Sem.run_bind,Sem.run_pure,Result.andThen_ok]
       rw[uU]
       simp[newRow]
      ·simp only[h0,if_false,Sem.run_bind,hzr,Sem.run_pure,Result.andThen_ok,hz']
       rw[hcz]
       simp[newRow]
     ·intro ρ' i s hs hr;simp only[aD];exact⟨_,_,_,hr,Nat.le_refl _,Nat.le_add_right _ _,by rw[hs]⟩
    ·cases hv
   ·cases hv
  ·cases hv
 |makeMap t r=>
  cases r with
  |none=>
   simp only[dW,Option.some.injEq,Prod.mk.injEq] at hv
   obtain⟨rfl,rfl⟩:=hv
   refine⟨.map #[] 0,fun n=> .map (some n),⟨[],rfl,rfl⟩,rfl,?_⟩
   intro ρ' i s hs hr;simp only[aD];grind
  |some x=>
   simp only[dW] at hv
   split at hv
   ·rename_i key elem k n hd hx
    simp only[Option.some.injEq,Prod.mk.injEq] at hv
    obtain⟨rfl,rfl⟩:=hv
    have h1:=hev x
    rw[hx] at h1
    simp only[aD] at h1
    refine⟨.map #[] 0,fun n=> .map (some n),⟨[],rfl,rfl⟩,by simp[execOp,Instr.makeMap,h1,run_underlying hd,asInt,asIntOf],?_⟩
    intro ρ' i s hs hr;simp only[aD];grind
   ·cases hv
 |_=>simp only[dW] at hv;cases hv
end Go.Ab
end
