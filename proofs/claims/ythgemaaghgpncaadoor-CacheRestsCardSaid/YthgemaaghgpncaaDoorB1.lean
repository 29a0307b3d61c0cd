/- A part of the proof. -/
import Derived.WalkKit
import Derived.AtR
import Derived.ChangeKeysEq
section
namespace Go.Ab
noncomputable section
def top:Value:= .chan none
def qA:Value→Bool
 |.chan _=>true
 |_=>false
def eE:Value→Bool
 |.agg _|.tuple _|.chan _=>false
 |_=>true
mutual
def cG:Value→Bool
 |.bool _|.int _ _|.string _|.pointer none|.slice none _ _|.map none|.nilFunc|.nilIface=>true
 |.iface _ v=>cG v
 |.agg cs=>nG cs
 |.tuple cs=>nG cs
 |_=>false
def nG:Array Value→Bool
 |⟨l⟩=>iK l
def iK:List Value→Bool
 |[]=>true
 |v::l=>cG v&&iK l
end
abbrev fN:=Nat→Option (Nat×(Nat×Nat))
def xB (ρ:fN):Fn→Fn→Prop
 |.yield l,g=>∃b s,ρ l=some (b,s)∧g= .yield b
 |f,g=>g=f
mutual
def aB (ρ:fN):Value→Value→Prop
 |.bool b,v'=>v'= .bool b
 |.int k n,v'=>v'= .int k n
 |.float k n,v'=>v'= .float k n
 |.complex k n m,v'=>v'= .complex k n m
 |.string s,v'=>v'= .string s
 |.pointer none,v'=>v'= .pointer none
 |.pointer (some a),v'=>∃b s,ρ a.block=some (b,s)∧v'= .pointer (some ⟨b,a.off+s.2,a.spot⟩)
 |.slice none l c,v'=>v'= .slice none l c
 |.slice (some ⟨i,o,some x⟩) l c,v'=>l=0∧c=0∧∃a' c',(x=1→c'=0)∧(x=2→∃b s,ρ i=some (b,s)∧c'≤s.1∧(0<c'→a'=⟨b,o+s.2,none⟩))∧v'= .slice (some a') 0 c'
 |.slice (some ⟨i,o,none⟩) l c,v'=>∃b s c',ρ i=some (b,s)∧c≤c'∧c'≤c+s.1∧v'= .slice (some ⟨b,o+s.2,none⟩) l c'
 |.map none,v'=>v'= .map none
 |.map (some r),v'=>∃b s,ρ r=some (b,s)∧v'= .map (some b)
 |.chan none,_=>True
 |.chan (some _),_=>False
 |.func fn fs cs,v'=>∃fn' fs' cs',xB ρ fn fn'∧iC ρ fs fs'∧iC ρ cs cs'∧v'= .func fn' fs' cs'
 |.nilFunc,v'=>v'= .nilFunc
 |.iface t v,v'=>∃u,aB ρ v u∧v'= .iface t u
 |.nilIface,v'=>v'= .nilIface
 |.agg cs,v'=>∃cs',iC ρ cs cs'∧v'= .agg cs'
 |.tuple cs,v'=>∃cs',iC ρ cs cs'∧v'= .tuple cs'
def iC (ρ:fN):Array Value→Array Value→Prop
 |⟨l⟩,a=>aH ρ l a.toList
def aH (ρ:fN):List Value→List Value→Prop
 |[],l'=>l'=[]
 |v::l,l'=>∃v' t',aB ρ v v'∧aH ρ l t'∧l'=v'::t'
end
inductive jN where
 |cells (c:List Value) (elem:TypeId) (fz:Nat×Nat) (exact:Bool)
 |loop (st:LoopState) (pending:Option Code) (fn:FuncId) (tmps:List Value) (params:Array Tmp) (assign body:Code) (defers:Nat)
 |marks (here:Bool)
 |map (es:List (Value×Value×Nat)) (clock:Nat)
 |mapIter (m:Option Nat) (since:Nat) (seen:List Nat) (last:Nat)
 |L6 (s:ByteArray) (pos:Nat)
inductive Tr (α:Type) where
 |lf
 |nd (v:α) (l r:Tr α)
noncomputable def Tr.get {α:Type} (d:α) (t:Tr α):Nat→α:=
 Tr.rec (motive:=fun _=>Nat→α) (fun _=>d) (fun v _ _ gl gr n=>Nat.rec (motive:=fun _=>α) v (fun m _=>Nat.rec (motive:=fun _=>α) (gl (Nat.div m 2)) (fun _ _=>gr (Nat.div m 2)) (Nat.mod m 2)) n) t
noncomputable def Tr.path {α:Type} (d:α) (f:Nat):Nat→α→Tr α:=
 Nat.rec (motive:=fun _=>Nat→α→Tr α) (fun _ _=> .lf) (fun _ ih n o=>Nat.rec (motive:=fun _=>Tr α) (.nd o .lf .lf) (fun m _=>Nat.rec (motive:=fun _=>Tr α) (.nd d (ih (Nat.div m 2) o) .lf) (fun _ _=> .nd d .lf (ih (Nat.div m 2) o)) (Nat.mod m 2)) n) f
noncomputable def Tr.set {α:Type} (d:α) (t:Tr α):Nat→α→Tr α:=
 Tr.rec (motive:=fun _=>Nat→α→Tr α) (fun n o=>Tr.path d (n+1) n o)
  (fun v l r sl sr n o=>Nat.rec (motive:=fun _=>Tr α) (.nd o l r) (fun m _=>Nat.rec (motive:=fun _=>Tr α) (.nd v (sl (Nat.div m 2) o) r) (fun _ _=> .nd v l (sr (Nat.div m 2) o)) (Nat.mod m 2)) n) t
theorem E4 {β:Type} (n:Nat) (a b:β):Nat.rec (motive:=fun _=>β) a (fun _ _=>b) (Nat.mod n 2)=if n % 2=0 then a else b:=by
 show Nat.rec (motive:=fun _=>β) a (fun _ _=>b) (n % 2)=_
 cases n % 2<;>rfl
theorem Tr.Bl {α:Type} (d:α) (n:Nat):(Tr.lf:Tr α).get d n=d:=rfl
theorem Tr.Dy {α:Type} (d v:α) (l r:Tr α):(Tr.nd v l r).get d 0=v:=rfl
theorem Tr.xZ {α:Type} (d v:α) (l r:Tr α) (n:Nat):(Tr.nd v l r).get d (n+1)=if n % 2=0 then l.get d (n/2) else r.get d (n/2):=E4 _ _ _
theorem Tr.Wy {α:Type} (d:α) (f:Nat) (o:α):Tr.path d (f+1) 0 o= .nd o .lf .lf:=rfl
theorem Tr.Yh {α:Type} (d:α) (f n:Nat) (o:α):Tr.path d (f+1) (n+1) o=if n % 2=0 then .nd d (Tr.path d f (n/2) o) .lf else .nd d .lf (Tr.path d f (n/2) o):=E4 _ _ _
theorem Tr.Xj {α:Type} (d:α) (n:Nat) (o:α):(Tr.lf:Tr α).set d n o=Tr.path d (n+1) n o:=rfl
theorem Tr.Zi {α:Type} (d v:α) (l r:Tr α) (o:α):(Tr.nd v l r).set d 0 o= .nd o l r:=rfl
theorem Tr.Zw {α:Type} (d v:α) (l r:Tr α) (n:Nat) (o:α):(Tr.nd v l r).set d (n+1) o=if n % 2=0 then .nd v (l.set d (n/2) o) r else .nd v l (r.set d (n/2) o):=E4 _ _ _
theorem Tr.Ib {α:Type} (d:α):∀(f n m:Nat) (o:α),n<f→(Tr.path d f n o).get d m=if m=n then o else d
 |0,n,_,_,h=>absurd h (Nat.not_lt_zero n)
 |f+1,0,m,o,_=>by
  rw[Tr.Wy]
  cases m with
  |zero=>simp[Tr.Dy]
  |succ m=>simp[Tr.xZ,Tr.Bl]
 |f+1,n+1,m,o,h=>by
  have ih:=fun m=>Tr.Ib d f (n/2) m o (by omega)
  rw[Tr.Yh]
  by_cases hn:n % 2=0
  ·rw[if_pos hn]
   cases m with
   |zero=>simp[Tr.Dy]
   |succ m=>
    rw[Tr.xZ]
    by_cases hm:m % 2=0
    ·grind
    ·rw[if_neg hm,Tr.Bl];grind
  ·rw[if_neg hn]
   cases m with
   |zero=>simp[Tr.Dy]
   |succ m=>
    rw[Tr.xZ]
    by_cases hm:m % 2=0
    ·rw[if_pos hm,Tr.Bl];grind
    grind
theorem Tr.fJ {α:Type} (d:α):∀(t:Tr α) (n m:Nat) (o:α),(t.set d n o).get d m=if m=n then o else t.get d m
 |.lf,n,m,o=>by rw[Tr.Bl,Tr.Xj];exact Tr.Ib d (n+1) n m o (Nat.lt_succ_self _)
 |.nd v l r,0,m,o=>by
  rw[Tr.Zi]
  cases m with
  |zero=>simp[Tr.Dy]
  |succ m=>simp[Tr.xZ]
 |.nd v l r,n+1,m,o=>by
  rw[Tr.Zw]
  by_cases hn:n % 2=0
  ·rw[if_pos hn]
   cases m with
   |zero=>simp[Tr.Dy]
   |succ m=>
    rw[Tr.xZ,Tr.xZ]
    by_cases hm:m % 2=0
    ·rw[if_pos hm,if_pos hm,Tr.fJ d l]
     grind
    grind
  ·rw[if_neg hn]
   cases m with
   |zero=>simp[Tr.Dy]
   |succ m=>
    rw[Tr.xZ,Tr.xZ]
    by_cases hm:m % 2=0
    ·grind
    ·rw[if_neg hm,if_neg hm,Tr.fJ d r]
     grind
structure AH where
 base:Nat
 next:Nat
 old:Nat→Option jN
 new:Tr (Option jN)
def AH.get (h:AH) (i:Nat):Option jN:=AH.rec (motive:=fun _=>Option jN) (fun base _ old new=>Bool.rec (motive:=fun _=>Option jN) (new.get none (Nat.sub i base)) (old i) (Nat.blt i base)) h
def AH.set (h:AH) (i:Nat) (o:Option jN):AH:=AH.rec (motive:=fun _=>AH) (fun base next old new=>Bool.rec (motive:=fun _=>AH) ⟨base,next,old,new.set none (Nat.sub i base) o⟩ ⟨base,next,old,new⟩ (Nat.blt i base)) h
def AH.alloc (h:AH) (o:jN):AH:=AH.rec (motive:=fun _=>AH) (fun base next old new=>⟨base,Nat.succ next,old,new.set none (Nat.sub next base) (some o)⟩) h
theorem AH.get_eq (h:AH) (i:Nat):h.get i=if i<h.base then h.old i else h.new.get none (i - h.base):=by
 obtain⟨base,next,old,new⟩:=h
 simp only[AH.get]
 cases hb:Nat.blt i base with
 |true=>simp_all
 |false=>rw[if_neg (by rw[←Nat.blt_eq,hb];simp)];rfl
theorem AH.vX (h:AH) (i:Nat) (o:Option jN):h.set i o=if i<h.base then h else {h with new:=h.new.set none (i - h.base) o}:=by
 obtain⟨base,next,old,new⟩:=h
 simp only[AH.set]
 cases hb:Nat.blt i base with
 |true=>simp_all
 |false=>rw[if_neg (by rw[←Nat.blt_eq,hb];simp)];rfl
theorem AH.alloc_eq (h:AH) (o:jN):h.alloc o={h with new:=h.new.set none (h.next - h.base) (some o),next:=h.next+1}:=rfl
theorem AH.fJ {h:AH} {i j:Nat} {o:Option jN} (hi:h.base≤i):(h.set i o).get j=if j=i then o else h.get j:=by
 rw[AH.vX,if_neg (Nat.not_lt.2 hi),AH.get_eq,AH.get_eq]
 by_cases hj:j<h.base
 ·grind
 ·simp only[hj,if_false,Tr.fJ]
  grind
@[simp] theorem AH.Ip {h:AH} {i:Nat} {o:Option jN}:(h.set i o).base=h.base:=by rw[AH.vX];split<;>rfl
@[simp] theorem AH.R4 {h:AH} {i:Nat} {o:Option jN}:(h.set i o).next=h.next:=by rw[AH.vX];split<;>rfl
@[simp] theorem AH.Xr {h:AH} {o:jN}:(h.alloc o).base=h.base:=rfl
@[simp] theorem AH.Y1 {h:AH} {o:jN}:(h.alloc o).next=h.next+1:=rfl
theorem AH.rR {h:AH} {j:Nat} {o:jN} (hb:h.base≤h.next):(h.alloc o).get j=if j=h.next then some o else h.get j:=by
 rw[AH.alloc_eq,AH.get_eq,AH.get_eq]
 by_cases hj:j<h.base
 ·grind
 ·simp only[hj,if_false,Tr.fJ]
  grind
def aT (c:List Value) (off:Nat) (xs:List Value):List Value:=c.take off++xs++c.drop (off+xs.length)
end
end Go.Ab
end
section
namespace Go.Ab
noncomputable section
def fR (P:Program) (t:TypeId):Option Bool:=
 (P.underlying t).map fun|.struct _|.array _ _=>true|_=>false
def zeroOf (P:Program) (t:TypeId):Option (List Value):=
 ((P.info? t).bind (·.zero)).bind fun z=>
  if cG z&&z.cells.toList.all eE&&z.cells.size==P.cellsOf t then some z.cells.toList else none
def bytesOf (P:Program) (t:TypeId):Nat:=P.bytesOf t
def aW (h:AH) (a:Addr) (n:Nat):Option (List Value):=
 if a.spot.isSome then none else
 match h.get a.block with
 |some (.cells c _ _ _)=>if a.off+n≤c.length then some ((c.drop a.off).take n) else none
 |_=>none
def lW (P:Program) (h:AH) (t:TypeId) (a:Addr):Option Value:=
 match fR P t with
 |some true=>(aW h a (P.cellsOf t)).map fun l=> .agg ⟨l⟩
 |some false=>
  if a.spot.isSome then none else
  match h.get a.block with
  |some (.cells c _ _ _)=>c[a.off]?
  |_=>none
 |none=>none
def cA (h:AH) (a:Addr) (vs:List Value):Option AH:=
 if a.spot.isSome||a.block<h.base|| !vs.all eE then none else
 match h.get a.block with
 |some (.cells c e fz x)=>if fz.2=0∧a.off+vs.length≤c.length then some (h.set a.block (some (.cells (aT c a.off vs) e fz x))) else none
 |_=>none
def fF (v:Value):Option (List Value):=if qA v then none else some v.cells.toList
def zV (P:Program) (h:AH) (t:TypeId) (a:Addr) (v:Value):Option AH:=
 match fF v with
 |some vs=>if vs.length=P.cellsOf t∧(P.info? t).isSome then cA h a vs else none
 |none=>none
def apart (P:Program) (t:TypeId) (cs:List Value) (off:Nat):Option Value:=
 match fR P t with
 |some true=>if off+P.cellsOf t≤cs.length then some (.agg ⟨(cs.drop off).take (P.cellsOf t)⟩) else none
 |some false=>cs[off]?
 |none=>none
def vR (place:Nat→Option (Nat×Nat)) (cells:List Value):List (Nat×Value)→Option (List Value)
 |[]=>some cells
 |(i,v)::rest=>
  match place i,fF v with
  |some (off,size),some vs=>if vs.length=size∧off+vs.length≤cells.length then vR place (aT cells off vs) rest else none
  |_,_=>none
def wJ (P:Program) (t:TypeId) (parts:List (Nat×Value)):Option Value:=
 match zeroOf P t,P.underlying t with
 |some z,some (.struct fs)=>
  if fs.all (fun f=>(P.info? f.type).isSome) then(vR (fun i=>(fs[i]?).map fun f=>(f.offset,P.cellsOf f.type)) z parts).map fun l=> .agg ⟨l⟩ else none
 |some z,some (.array _ e)=>
  if(P.info? e).isSome then(vR (fun i=>some (i*P.cellsOf e,P.cellsOf e)) z parts).map fun l=> .agg ⟨l⟩ else none
 |_,_=>none
def dV (z:List Value) (n:Nat):List Value:=(List.replicate n z).flatten
def iX (v:Option Value) (dflt:Nat) (most:Nat):Option Nat:=
 match v with
 |none=>some dflt
 |some (.int _ i)=>if 0≤i∧i≤most then some i.toNat else none
 |some _=>none
def nW (a:Addr):Value:= .slice (some ⟨a.block,a.off,some 2⟩) 0 0
def lF:Value:= .slice (some ⟨0,0,some 1⟩) 0 0
def Xq:Value:= .slice (some ⟨0,0,some 0⟩) 0 0
def iS (h:AH) (i:Nat):Option Bool:=match h.get i with|some (.cells _ _ _ x)=>some x|_=>none
def lT (P:Program) (h:AH) (t:TypeId) (x:Value) (lo hi mx:Option Value):Option Value:=
 match P.underlying t,x with
 |some (.array n e),.pointer (some a)=>
  match iX mx n n with
  |some m=>match(if hi.isNone&&mx.isSome then none else iX hi n m) with
   |some hh=>match iX lo 0 hh with
    |some l=>if(P.info? e).isSome∧a.spot=none then some (.slice (some (if m=l then a else a.add (l*P.cellsOf e))) (hh - l) (m - l)) else none
    |none=>none
   |none=>none
  |none=>none
 |some .string,.string s=>
  if mx.isSome then none else
  match iX hi s.size s.size with
  |some hh=>match iX lo 0 hh with
   |some l=>some (.string (s.extract l hh))
   |none=>none
  |none=>none
 |some (.slice e),.slice none len cap=>
  match iX mx cap cap with
  |some m=>match(if hi.isNone&&mx.isSome then none else iX hi len m) with
   |some hh=>match iX lo 0 hh with
    |some l=>if(P.info? e).isSome then some (.slice none (hh - l) (m - l)) else none
    |none=>none
   |none=>none
  |none=>none
 |some (.slice e),.slice (some a) len cap=>
  match iX mx cap cap with
  |some m=>match(if hi.isNone&&mx.isSome then none else iX hi len m) with
   |some hh=>match iX lo 0 hh with
    |some l=>
     if a.spot.isSome then(if(P.info? e).isSome∧len=0∧cap=0 then some (if mx.isSome then lF else Xq) else none) else
     if(P.info? e).isSome∧hh≤m then
      (if m=l then
       if mx.isSome then some lF else
       match iS h a.block with
       |some true=>some lF
       |some false=>some (nW (a.add (l*P.cellsOf e)))
       |none=>none
      else some (.slice (some (a.add (l*P.cellsOf e))) (hh - l) (m - l)))
     else none
    |none=>none
   |none=>none
  |none=>none
 |_,_=>none
def iB (P:Program) (eq:TypeId→Value→Value→Option Bool) (xs ys:List Value):List Field→Option Bool
 |[]=>some true
 |f::fs=>
  if f.name= "_" then iB P eq xs ys fs else
  match apart P f.type xs f.offset,apart P f.type ys f.offset with
  |some x,some y=>match eq f.type x y with
   |some true=>iB P eq xs ys fs
   |some false=>some false
   |none=>none
  |_,_=>none
def kN (P:Program) (eq:TypeId→Value→Value→Option Bool) (e:TypeId) (xs ys:List Value):List Nat→Option Bool
 |[]=>some true
 |i::is=>
  match apart P e xs (i*P.cellsOf e),apart P e ys (i*P.cellsOf e) with
  |some x,some y=>match eq e x y with
   |some true=>kN P eq e xs ys is
   |some false=>some false
   |none=>none
  |_,_=>none
def qM (P:Program):Nat→TypeId→Value→Value→Option Bool
 |0,_,_,_=>none
 |d+1,t,x,y=>
  match P.underlying t,x,y with
  |some .bool,.bool a,.bool b=>some (a==b)
  |some (.int _),.int k a,.int k' b=>if k=k' then some (a==b) else none
  |some .string,.string a,.string b=>some (a==b)
  |some (.pointer _),.pointer none,.pointer b=>some b.isNone
  |some (.pointer _),.pointer (some _),.pointer none=>some false
  |some (.interface _),.nilIface,.nilIface=>some true
  |some (.interface _),.nilIface,.iface _ _=>some false
  |some (.interface _),.iface _ _,.nilIface=>some false
  |some (.struct fs),.agg xs,.agg ys=>if P.stoodInHeld t then none else iB P (qM P d) xs.toList ys.toList fs.toList
  |some (.array n e),.agg xs,.agg ys=>if(P.info? e).isSome then kN P (qM P d) e xs.toList ys.toList (List.range n) else none
  |some (.slice _),.slice none _ _,.slice b _ _=>some b.isNone
  |some (.slice _),.slice (some _) _ _,.slice none _ _=>some false
  |some (.map _ _),.map none,.map b=>some b.isNone
  |some (.map _ _),.map (some _),.map none=>some false
  |some (.func _ _ _),.nilFunc,.nilFunc=>some true
  |some (.func _ _ _),.nilFunc,.func _ _ _=>some false
  |some (.func _ _ _),.func _ _ _,.nilFunc=>some false
  |_,_,_=>none
def isConst:Operand→Bool
 |.const _=>true
 |_=>false
def xL (P:Program) (t:TypeId) (x y:Operand) (a b:Value):Bool:=
 match a,b with
 |.nilIface,.nilIface=>isConst x||isConst y
 |.agg _,.agg _=> !P.eqGuardType P.depth t
 |_,_=>true
def ae (op:BinOp) (x y:Int):Option Bool:=
 match op with
 |.eql=>some (x==y)
 |.neq=>some (x !=y)
 |.lss=>some (decide (x<y))
 |.leq=>some (decide (x≤y))
 |.gtr=>some (decide (x>y))
 |.geq=>some (decide (x≥y))
 |_=>none
def xI (op:BinOp) (k:IntKind) (x y:Int):Option Value:=
 if y<0 then none else
 match op with
 |.shl=>some (.int k (k.wrap (x*2^(min y.toNat k.bits))))
 |.shr=>some (.int k (x.fdiv (2^(min y.toNat k.bits))))
 |_=>none
def yJ (op:BinOp) (k:IntKind) (x y:Int):Option Value:=
 match op with
 |.add=>some (.int k (k.wrap (x+y)))
 |.sub=>some (.int k (k.wrap (x - y)))
 |.mul=>some (.int k (k.wrap (x*y)))
 |.quo=>if y=0 then none else some (.int k (k.wrap (x.tdiv y)))
 |.rem=>if y=0 then none else some (.int k (x.tmod y))
 |.eql|.neq|.lss|.leq|.gtr|.geq=>(ae op x y).map .bool
 |.shl|.shr=>xI op k x y
 |.and=>some (.int k (k.wrap (BitVec.ofInt k.bits x&&&BitVec.ofInt k.bits y).toNat))
 |.or=>some (.int k (k.wrap (BitVec.ofInt k.bits x|||BitVec.ofInt k.bits y).toNat))
 |.xor=>some (.int k (k.wrap (BitVec.ofInt k.bits x^^^BitVec.ofInt k.bits y).toNat))
 |.andNot=>some (.int k (k.wrap (BitVec.ofInt k.bits x&&&~~~BitVec.ofInt k.bits y).toNat))
def Uf (op:BinOp) (x y:ByteArray):Option Value:=
 match op with
 |.add=>if x.size+y.size≤2^62 then some (.string (x++y)) else none
 |.eql=>some (.bool (x.toList==y.toList))
 |.neq=>some (.bool !(x.toList==y.toList))
 |.lss=>some (.bool (Op.bytesLess x.toList y.toList))
 |_=>none
def El (P:Program) (op:BinOp) (t:TypeId) (x y:Operand) (a b:Value):Option Value:=
 match a,b with
 |.int k m,.int k' n=>if k=k' then yJ op k m n else xI op k m n
 |.string m,.string n=>Uf op m n
 |a,b=>
  match op with
  |.eql=>if xL P t x y a b then(qM P 10000 t a b).map .bool else none
  |.neq=>if xL P t x y a b then(qM P 10000 t a b).map fun e=> .bool !e else none
  |_=>none
def cC (P:Program) (ev:Operand→Value):Op→Option (jN×(Nat→Value))
 |.alloc e=>(zeroOf P e).map fun z=>(.cells z e (0,0) true,fun i=> .pointer (some ⟨i,0,none⟩))
 |.box e x=>(fF (ev x)).map fun l=>(.cells l e (0,0) true,fun i=> .pointer (some ⟨i,0,none⟩))
 |.buildSlice t len parts=>
  match P.underlying t with
  |some (.slice e)=>
   match zeroOf P e with
   |some z=>
    if len*P.cellsOf e≤2^24 then
     (vR (fun i=>some (i*P.cellsOf e,P.cellsOf e)) (dV z len) (parts.toList.map fun p=>(p.1,ev p.2))).map fun l=>
      (.cells l e (0,0) true,fun i=> .slice (some ⟨i,0,none⟩) len len)
    else none
   |none=>none
  |_=>none
 |.makeSlice t l c=>match P.underlying t,ev l,ev c with
  |some (.slice e),.int _ l,.int _ c=>
   match zeroOf P e with
   |some z=>
    if 0≤l∧l≤c∧c≤2^40∧P.bytesOf e*c≤2^47 then
     some (.cells (dV z c.toNat) e (0,0) true,fun i=> .slice (some ⟨i,0,none⟩) l.toNat c.toNat)
    else none
   |none=>none
  |_,_,_=>none
 |.makeMap t r=>match r with
  |none=>some (.map [] 0,fun i=> .map (some i))
  |some x=>match P.underlying t,ev x with
   |some (.map _ _),.int _ _=>some (.map [] 0,fun i=> .map (some i))
   |_,_=>none
 |_=>none
def wI (P:Program) (t:TypeId):Option TypeId:=
 match P.underlying t with
 |some (.map key elem)=>match P.underlying key with
  |some (.int _)=>some elem
  |_=>none
 |_=>none
def rI (k:IntKind) (n:Int):List (Value×Value×Nat)→Nat→Option (Option (Nat×Value))
 |[],_=>some none
 |(.int j m,v,_)::es,i=>if k=j then(if n=m then some (some (i,v)) else rI k n es (i+1)) else none
 |_::_,_=>none
def zeroV (P:Program) (t:TypeId):Option Value:=((P.info? t).bind (·.zero)).bind fun z=>if cG z then some z else none
def Pa (h:AH):Value→Option (List (Value×Value×Nat))
 |.map none=>some []
 |.map (some r)=>match h.get r with
  |some (.map es _)=>some es
  |_=>none
 |_=>none
def mQ (P:Program) (h:AH) (t:TypeId) (x ix:Value) (ok:Bool):Option Value:=
 match wI P t,Pa h x,ix with
 |some e,some es,.int k n=>match rI k n es 0 with
  |some (some (_,v))=>some (if ok then .tuple ⟨[v,.bool true]⟩ else v)
  |some none=>(zeroV P e).map fun z=>if ok then .tuple ⟨[z,.bool false]⟩ else z
  |none=>none
 |_,_,_=>none
def Y5 (k:IntKind) (n:Int) (v:Value) (es:List (Value×Value×Nat)) (clock:Nat):Option jN:=
 match rI k n es 0 with
 |some (some (i,_))=>some (.map (es.modify i fun e=>(.int k n,v,e.2.2)) clock)
 |some none=>some (.map (es++[(.int k n,v,clock)]) (clock+1))
 |none=>none
def sA (P:Program) (h:AH) (t:TypeId) (m key v:Value):Option AH:=
 match wI P t,m,key with
 |some _,.map (some r),.int k n=>if r<h.base then none else match h.get r with
  |some (.map es clock)=>(Y5 k n v es clock).map fun o=>h.set r (some o)
  |_=>none
 |_,_,_=>none
def uC (P:Program) (h:AH) (t:TypeId) (m key:Value):Option AH:=
 match wI P t,m,key with
 |some _,.map none,.int _ _=>some h
 |some _,.map (some r),.int k n=>if r<h.base then none else match h.get r with
  |some (.map es clock)=>match rI k n es 0 with
   |some (some (i,_))=>some (h.set r (some (.map (es.eraseIdx i) clock)))
   |some none=>some (h.set r (some (.map es clock)))
   |none=>none
  |_=>none
 |_,_,_=>none
def byteOf:Value→Option UInt8
 |.int .u8 n=>some (UInt8.ofNat n.toNat)
 |_=>none
def qP:List Value→Option (List UInt8)
 |[]=>some []
 |v::l=>match byteOf v,qP l with
  |some b,some r=>some (b::r)
  |_,_=>none
def strOf (h:AH):Value→Option Value
 |.slice none _ _=>some (.string .empty)
 |.slice (some a) n _=>if n=0 then some (.string .empty) else((aW h a n).bind qP).map fun l=> .string ⟨⟨l⟩⟩
 |_=>none
def aM (P:Program) (ev:Operand→Value) (h:AH):Op→Option Value
 |.move x=>some (ev x)
 |.assign x=>some (ev x)
 |.pick c a b=>match ev c with
  |.bool t=>some (if t then ev a else ev b)
  |_=>none
 |.build t parts=>wJ P t (parts.toList.map fun p=>(p.1,ev p.2))
 |.load t a=>match ev a with
  |.pointer (some a)=>lW P h t a
  |_=>none
 |.nilCheck x=>match ev x with
  |.pointer (some a)=>some (.pointer (some a))
  |.func (.func f) a b=>some (.func (.func f) a b)
  |.func (.yield f) a b=>some (.func (.yield f) a b)
  |_=>none
 |.binOp op t x y _=>El P op t x y (ev x) (ev y)
 |.unOp op _ x=>match op,ev x with
  |.neg,.int k n=>some (.int k (k.wrap (0 - n)))
  |.not,.bool b=>some (.bool !b)
  |_,_=>none
 |.convert s d x=>match P.underlying s,P.underlying d,ev x with
  |some _,some (.int k),.int _ n=>some (.int k (k.wrap n))
  |some .string,some .string,.string z=>some (.string z)
  |some (.slice e),some .string,v=>(match P.underlying e with
   |some (.int .u8)=>strOf h v
   |_=>none)
  |_,_,_=>none
 |.makeInterface t x=>match P.underlying t with
  |some (.interface _)=>none
  |some _=>some (.iface t (ev x))
  |none=>none
 |.makeFunc fn first captured=>match fn with
  |.func f=>some (.func (.func f) (first.map ev) (captured.map ev))
  |_=>none
 |.slice t x lo hi mx=>lT P h t (ev x) (lo.map ev) (hi.map ev) (mx.map ev)
 |.fieldAddr s x f=>match P.underlying s,ev x with
  |some (.struct fs),.pointer (some a)=>match fs[f]? with
   |some fd=>if P.cellsOf fd.type=0 then none else some (.pointer (some (a.add fd.offset)))
   |none=>none
  |_,_=>none
 |.field t x f=>match P.underlying t,ev x with
  |some (.struct fs),.agg cs=>match fs[f]? with
   |some fd=>apart P fd.type cs.toList fd.offset
   |none=>none
  |_,_=>none
 |.indexAddr t x i=>match P.underlying t,ev x,ev i with
  |some (.array n e),.pointer (some a),.int _ i=>if 0≤i∧i<n∧(P.info? e).isSome then some (.pointer (some (a.add (i.toNat*P.cellsOf e)))) else none
  |some (.slice e),.slice (some a) n _,.int _ i=>if 0≤i∧i<n∧(P.info? e).isSome∧a.spot=none then some (.pointer (some (a.add (i.toNat*P.cellsOf e)))) else none
  |_,_,_=>none
 |.index t x i=>match P.underlying t,ev x,ev i with
  |some (.array n e),.agg cs,.int _ i=>if 0≤i∧i<n∧(P.info? e).isSome then apart P e cs.toList (i.toNat*P.cellsOf e) else none
  |some .string,.string s,.int _ i=>if 0≤i then(s[i.toNat]?).map fun b=> .int .u8 b.toNat else none
  |_,_,_=>none
 |.extract t i=>match ev t with
  |.tuple vs=>vs.toList[i]?
  |_=>none
 |.lookup t x ix ok=>mQ P h t (ev x) (ev ix) ok
 |_=>none
inductive Kind where
 |qG|alloc|store|call|other
 deriving DecidableEq
def kindOf:Op→Kind
 |.move _|.assign _|.pick ..|.build ..|.load ..|.nilCheck _|.binOp ..|.unOp ..|.convert ..|.makeInterface ..|.makeFunc ..|.slice ..|.fieldAddr ..
 |.field ..|.indexAddr ..|.index ..|.extract ..|.lookup ..=> .qG
 |.alloc _|.box ..|.buildSlice ..|.makeSlice ..|.makeMap ..=> .alloc
 |.store ..|.mapUpdate ..=> .store
 |.call _=> .call
 |_=> .other
def eM (h:AH) (size n:Nat):Value→Option (List Value)
 |.slice none _ _=>if n=0 then some [] else none
 |.slice (some a) l _=>if n=0 then some [] else if n≤l then aW h a (n*size) else none
 |.string s=>if n≤s.size then some ((s.extract 0 n).data.toList.map fun b=> .int .u8 b.toNat) else none
 |_=>none
def mB:Value→Option Nat
 |.slice _ n _=>some n
 |.string s=>some s.size
 |_=>none
def zE (P:Program) (argTypes:Array TypeId):Bool:=
 match(argTypes[1]?).bind P.underlying with
 |some (.slice _)|some .string=>true
 |_=>false
def zB (P:Program) (h:AH) (argTypes:Array TypeId) (s x:Value):Option (Value×AH):=
 match(argTypes[0]?).bind P.underlying,s,mB x with
 |some (.slice e),.slice base sLen sCap,some n=>
  if !zE P argTypes then none else
  match zeroOf P e,eM h (P.cellsOf e) n x with
  |some _,some new=>
   if !new.all eE||new.length !=n*P.cellsOf e then none else
   if sLen+n≤sCap then
    match base with
    |none=>if n=0 then some (s,h) else none
    |some a=>if n=0 then some (s,h) else if a.spot.isSome then none else
     (cA h (a.add (sLen*P.cellsOf e)) new).map fun h'=>(.slice base (sLen+n) sCap,h')
   else if(sLen+n)*(P.bytesOf e+1)≤2^46 then
    match base with
    |none=>if sLen=0 then some (.slice (some ⟨h.next,0,none⟩) n n,h.alloc (.cells new e (0,0) false)) else none
    |some a=>
     if a.spot=some 1 then(if sLen=0 then some (.slice (some ⟨h.next,0,none⟩) n n,h.alloc (.cells new e (0,0) false)) else none) else
     if a.spot=some 2 then
      (match h.get a.block with
      |some (.cells c e' fz _)=>
       if e'=e∧h.base≤a.block∧fz=(0,0)∧a.off≤c.length∧sLen=0∧sCap=0 then
        some (.slice (some ⟨h.next,0,none⟩) n n,(h.set a.block none).alloc (.cells new e (0,0) false))
       else none
      |_=>none) else
     match aW h a (sLen*P.cellsOf e),h.get a.block with
     |some old,some (.cells c e' fz x)=>
      if !old.all eE then none else
      if x then some (.slice (some ⟨h.next,0,none⟩) (sLen+n) (sLen+n),h.alloc (.cells (old++new) e (0,0) false))
      else if e'=e∧h.base≤a.block∧fz=(0,0)∧a.off+sCap*P.cellsOf e≤c.length then
       some (.slice (some ⟨h.next,0,none⟩) (sLen+n) (sLen+n),(h.set a.block none).alloc (.cells (old++new) e (0,0) false))
      else none
     |_,_=>none
   else none
  |_,_=>none
 |_,_,_=>none
def cJ (P:Program) (h:AH) (b:Builtin) (argTypes:Array TypeId) (args:List Value):Option (Value×AH):=
 match b,args with
 |.len,[x]=>match(argTypes[0]?).bind P.underlying,x with
  |some .string,.string s=>some (.int .i64 s.size,h)
  |some (.array n _),_=>some (.int .i64 n,h)
  |some (.pointer e),_=>match P.underlying e with
   |some (.array n _)=>some (.int .i64 n,h)
   |_=>none
  |some (.slice _),.slice _ n _=>some (.int .i64 n,h)
  |some (.map _ _),x=>(Pa h x).map fun es=>(.int .i64 es.length,h)
  |_,_=>none
 |.append,[s,x]=>zB P h argTypes s x
 |.copy,[d,x]=>match(argTypes[0]?).bind P.underlying,d,mB x with
  |some (.slice e),.slice base dLen _,some m=>
   if(P.info? e).isNone then none else
   match eM h (P.cellsOf e) (Nat.min m dLen) x with
   |some new=>match base with
    |none=>some (.int .i64 (Nat.min m dLen:Nat),h)
    |some a=>if Nat.min m dLen=0 then some (.int .i64 0,h) else(cA h a new).map fun h'=>(.int .i64 (Nat.min m dLen:Nat),h')
   |none=>none
  |_,_,_=>none
 |.clear,[x]=>match(argTypes[0]?).bind P.underlying,x with
  |some _,.slice none _ _=>some (.tuple #[],h)
  |some (.slice e),.slice (some a) n _=>
   if n=0 then some (.tuple #[],h) else
   match zeroOf P e with
   |some z=>(cA h a (dV z n)).map fun h'=>(.tuple #[],h')
   |none=>none
  |_,_=>none
 |.delete,[m,k]=>match argTypes[0]? with
  |some t=>(uC P h t m k).map fun h'=>(.tuple #[],h')
  |none=>none
 |.min,[.int k x,.int _ y]=>some (.int k (if y<x then y else x),h)
 |.max,[.int k x,.int _ y]=>some (.int k (if y>x then y else x),h)
 |_,_=>none
end
end Go.Ab
end
section
namespace Go.Ab
open Go.RowKit
def Ext (ρ ρ':fN):Prop:=∀i x,ρ i=some x→ρ' i=some x
theorem Ext.refl (ρ:fN):Ext ρ ρ:=fun _ _ h=>h
theorem Ext.trans {a b c:fN} (h:Ext a b) (k:Ext b c):Ext a c:=fun i x hx=>k i x (h i x hx)
theorem xB.mono {ρ ρ':fN} (h:Ext ρ ρ') {f g:Fn} (k:xB ρ f g):xB ρ' f g:=by
 cases f<;>simp only[xB] at k ⊢<;>try exact k
 obtain⟨b,s,hb,hg⟩:=k
 exact⟨b,s,h _ _ hb,hg⟩
mutual
theorem aB.mono {ρ ρ':fN} (h:Ext ρ ρ'):∀(v v':Value),aB ρ v v'→aB ρ' v v'
 |.bool _,_,k=>by simp only[aB] at k ⊢;exact k
 |.int _ _,_,k=>by simp only[aB] at k ⊢;exact k
 |.float _ _,_,k=>by simp only[aB] at k ⊢;exact k
 |.complex _ _ _,_,k=>by simp only[aB] at k ⊢;exact k
 |.string _,_,k=>by simp only[aB] at k ⊢;exact k
 |.pointer none,_,k=>by simp only[aB] at k ⊢;exact k
 |.pointer (some _),_,k=>by simp only[aB] at k ⊢;obtain⟨b,s,hb,hv⟩:=k;exact⟨b,s,h _ _ hb,hv⟩
 |.slice none _ _,_,k=>by simp only[aB] at k ⊢;exact k
 |.slice (some ⟨_,_,some _⟩) _ _,_,k=>by
  simp only[aB] at k ⊢
  obtain⟨h1,h2,a',c',h3,h4,h5⟩:=k
  exact⟨h1,h2,a',c',h3,fun hx=>let⟨b,s,hb,hv⟩:=h4 hx;⟨b,s,h _ _ hb,hv⟩,h5⟩
 |.slice (some ⟨_,_,none⟩) _ _,_,k=>by simp only[aB] at k ⊢;obtain⟨b,s,c',hb,hv⟩:=k;exact⟨b,s,c',h _ _ hb,hv⟩
 |.map none,_,k=>by simp only[aB] at k ⊢;exact k
 |.map (some _),_,k=>by simp only[aB] at k ⊢;obtain⟨b,s,hb,hv⟩:=k;exact⟨b,s,h _ _ hb,hv⟩
 |.chan none,_,_=>by simp only[aB]
 |.chan (some _),_,k=>by simp only[aB] at k
 |.func _ fs cs,_,k=>by
  simp only[aB] at k ⊢
  obtain⟨fn',fs',cs',h1,h2,h3,hv⟩:=k
  exact⟨fn',fs',cs',h1.mono h,iC.mono h fs fs' h2,iC.mono h cs cs' h3,hv⟩
 |.nilFunc,_,k=>by simp only[aB] at k ⊢;exact k
 |.iface _ v,_,k=>by simp only[aB] at k ⊢;obtain⟨u,hu,hv⟩:=k;exact⟨u,aB.mono h v u hu,hv⟩
 |.nilIface,_,k=>by simp only[aB] at k ⊢;exact k
 |.agg cs,_,k=>by simp only[aB] at k ⊢;obtain⟨cs',hc,hv⟩:=k;exact⟨cs',iC.mono h cs cs' hc,hv⟩
 |.tuple cs,_,k=>by simp only[aB] at k ⊢;obtain⟨cs',hc,hv⟩:=k;exact⟨cs',iC.mono h cs cs' hc,hv⟩
theorem iC.mono {ρ ρ':fN} (h:Ext ρ ρ'):∀(v v':Array Value),iC ρ v v'→iC ρ' v v'
 |⟨l⟩,a,k=>by simp only[iC] at k ⊢;exact aH.mono h l a.toList k
theorem aH.mono {ρ ρ':fN} (h:Ext ρ ρ'):∀(l l':List Value),aH ρ l l'→aH ρ' l l'
 |[],_,k=>by simp only[aH] at k ⊢;exact k
 |v::l,_,k=>by
  simp only[aH] at k ⊢
  obtain⟨v',t',h1,h2,h3⟩:=k
  exact⟨v',t',aB.mono h v v' h1,aH.mono h l t' h2,h3⟩
end
mutual
theorem eI {ρ:fN}:∀(v:Value),cG v=true→aB ρ v v
 |.bool _,_=>by simp only[aB]
 |.int _ _,_=>by simp only[aB]
 |.float _ _,h=>by simp[cG] at h
 |.complex _ _ _,h=>by simp[cG] at h
 |.string _,_=>by simp only[aB]
 |.pointer none,_=>by simp only[aB]
 |.pointer (some _),h=>by simp[cG] at h
 |.slice none _ _,_=>by simp only[aB]
 |.slice (some _) _ _,h=>by simp[cG] at h
 |.map none,_=>by simp only[aB]
 |.map (some _),h=>by simp[cG] at h
 |.chan _,h=>by simp[cG] at h
 |.func _ _ _,h=>by simp[cG] at h
 |.nilFunc,_=>by simp only[aB]
 |.iface _ v,h=>by simp only[aB];simp only[cG] at h;exact⟨v,eI v h,rfl⟩
 |.nilIface,_=>by simp only[aB]
 |.agg cs,h=>by simp only[aB];simp only[cG] at h;exact⟨cs,As cs h,rfl⟩
 |.tuple cs,h=>by simp only[aB];simp only[cG] at h;exact⟨cs,As cs h,rfl⟩
theorem As {ρ:fN}:∀(v:Array Value),nG v=true→iC ρ v v
 |⟨l⟩,h=>by simp only[nG] at h;simp only[iC];exact mI l h
theorem mI {ρ:fN}:∀(l:List Value),iK l=true→aH ρ l l
 |[],_=>by simp only[aH]
 |v::l,h=>by
  simp only[iK,Bool.and_eq_true] at h
  simp only[aH]
  exact⟨v,l,eI v h.1,mI l h.2,rfl⟩
end
theorem fH {ρ:fN} {a b:Array Value}:iC ρ a b↔aH ρ a.toList b.toList:=by cases a;simp only[iC]
section lists
variable {ρ:fN}
theorem aH.nil:aH ρ [] []:=by simp only[aH]
theorem aH.cons {v v':Value} {l l':List Value} (h:aB ρ v v') (k:aH ρ l l'):aH ρ (v::l) (v'::l'):=by
 simp only[aH];grind
theorem aH.Gq {v v':Value} {l l':List Value}:aH ρ (v::l) (v'::l')↔aB ρ v v'∧aH ρ l l':=by
 constructor
 ·intro h
  simp only[aH] at h
  grind
 ·exact fun h=>aH.cons h.1 h.2
theorem aH.length:∀{l l':List Value},aH ρ l l'→l'.length=l.length
 |[],l',h=>by simp only[aH] at h;simp[h]
 |v::l,l',h=>by
  simp only[aH] at h
  obtain⟨v',t',_,h2,rfl⟩:=h
  simp[aH.length h2]
theorem aH.get:∀{l l':List Value} {i:Nat} {v:Value},aH ρ l l'→l[i]?=some v→∃v',l'[i]?=some v'∧aB ρ v v'
 |[],l',i,v,h,k=>by simp at k
 |u::l,l',0,v,h,k=>by
  simp only[aH] at h
  grind
 |u::l,l',i+1,v,h,k=>by
  simp only[aH] at h
  obtain⟨v',t',_,h2,rfl⟩:=h
  simp at k
  simpa using aH.get h2 k
theorem aH.get_none {l l':List Value} {i:Nat} (h:aH ρ l l') (k:l[i]?=none):l'[i]?=none:=by
 rw[List.getElem?_eq_none_iff] at k ⊢
 rw[h.length];exact k
theorem aH.getD {l l':List Value} (i:Nat) (h:aH ρ l l'):aB ρ (l.getD i undef) (l'.getD i undef):=by
 cases k:l[i]? with
 |none=>
  have k':=h.get_none k
  rw[List.getD_eq_getElem?_getD,List.getD_eq_getElem?_getD,k,k']
  exact eI undef (by simp[undef,cG,nG,iK])
 |some v=>
  obtain⟨v',hv,hr⟩:=h.get k
  grind
theorem aH.append:∀{l l' m m':List Value},aH ρ l l'→aH ρ m m'→aH ρ (l++m) (l'++m')
 |[],l',m,m',h,k=>by simp only[aH] at h;subst h;exact k
 |v::l,l',m,m',h,k=>by
  simp only[aH] at h
  obtain⟨v',t',h1,h2,rfl⟩:=h
  exact aH.cons h1 (aH.append h2 k)
theorem aH.take:∀{l l':List Value} (n:Nat),aH ρ l l'→aH ρ (l.take n) (l'.take n)
 |_,_,0,_=>by simp[aH.nil]
 |[],l',n+1,h=>by simp only[aH] at h;subst h;exact aH.nil
 |v::l,l',n+1,h=>by
  simp only[aH] at h
  obtain⟨v',t',h1,h2,rfl⟩:=h
  exact aH.cons h1 (aH.take n h2)
theorem aH.drop:∀{l l':List Value} (n:Nat),aH ρ l l'→aH ρ (l.drop n) (l'.drop n)
 |_,_,0,h=>by simpa using h
 |[],l',n+1,h=>by simp only[aH] at h;subst h;exact aH.nil
 |v::l,l',n+1,h=>by
  simp only[aH] at h
  obtain⟨v',t',h1,h2,rfl⟩:=h
  exact aH.drop n h2
theorem aH.set:∀{l l':List Value} (i:Nat) {v v':Value},aH ρ l l'→aB ρ v v'→aH ρ (l.set i v) (l'.set i v')
 |[],l',i,v,v',h,k=>by simp only[aH] at h;subst h;exact aH.nil
 |u::l,l',0,v,v',h,k=>by
  simp only[aH] at h
  obtain⟨w',t',h1,h2,rfl⟩:=h
  exact aH.cons k h2
 |u::l,l',i+1,v,v',h,k=>by
  simp only[aH] at h
  obtain⟨w',t',h1,h2,rfl⟩:=h
  exact aH.cons h1 (aH.set i h2 k)
theorem aH.aT {l l' m m':List Value} (i:Nat) (h:aH ρ l l') (k:aH ρ m m'):aH ρ (aT l i m) (aT l' i m'):=by
 unfold Ab.aT
 rw[k.length]
 exact((h.take i).append k).append (h.drop _)
theorem aH.replicate {v v':Value} (n:Nat) (h:aB ρ v v'):aH ρ (List.replicate n v) (List.replicate n v'):=by
 induction n with
 |zero=>exact aH.nil
 |succ n ih=>exact aH.cons h ih
theorem aH.tO {α:Type} {f g:α→Value} (h:∀x,aB ρ (f x) (g x)):∀l:List α,aH ρ (l.map f) (l.map g)
 |[]=>aH.nil
 |x::l=>aH.cons (h x) (aH.tO h l)
end lists
section Ye
variable {ρ:fN}
theorem aB.cells {v v':Value} (h:aB ρ v v') (ht:qA v=false):aH ρ v.cells.toList v'.cells.toList:=by
 cases v with
 |agg cs=>simp only[aB] at h;obtain⟨cs',hc,rfl⟩:=h;exact fH.1 hc
 |chan r=>simp[qA] at ht
 |pointer a=>
  have h0:=h
  cases a with
  |none=>simp only[aB] at h;subst h;exact aH.cons h0 aH.nil
  |some a=>simp only[aB] at h;obtain⟨b,s,hb,rfl⟩:=h;exact aH.cons h0 aH.nil
 |slice a l c=>
  have h0:=h
  cases a with
  |none=>simp only[aB] at h;subst h;exact aH.cons h0 aH.nil
  |some a=>
   obtain⟨i,o,sp⟩:=a
   cases sp with
   |none=>simp only[aB] at h;obtain⟨b,s,c',hb,_,_,rfl⟩:=h;exact aH.cons h0 aH.nil
   |some _=>simp only[aB] at h;obtain⟨_,_,a',c',_,_,rfl⟩:=h;exact aH.cons h0 aH.nil
 |map r=>
  have h0:=h
  cases r with
  |none=>simp only[aB] at h;subst h;exact aH.cons h0 aH.nil
  |some a=>simp only[aB] at h;obtain⟨b,s,hb,rfl⟩:=h;exact aH.cons h0 aH.nil
 |func fn a b=>have h0:=h;simp only[aB] at h;obtain⟨_,_,_,_,_,_,rfl⟩:=h;exact aH.cons h0 aH.nil
 |iface t v=>have h0:=h;simp only[aB] at h;obtain⟨_,_,rfl⟩:=h;exact aH.cons h0 aH.nil
 |tuple t=>have h0:=h;simp only[aB] at h;obtain⟨_,_,rfl⟩:=h;exact aH.cons h0 aH.nil
 |_=>have h0:=h;simp only[aB] at h;subst h;exact aH.cons h0 aH.nil
theorem aB.Ft {v v':Value} (h:aB ρ v v') (hc:eE v=true):v'.oneCell'=true:=by
 cases v with
 |agg cs=>simp[eE] at hc
 |chan r=>simp[eE] at hc
 |tuple t=>simp[eE] at hc
 |pointer a=>cases a with
  |none=>simp only[aB] at h;subst h;rfl
  |some a=>simp only[aB] at h;obtain⟨b,s,hb,rfl⟩:=h;rfl
 |slice a l c=>cases a with
  |none=>simp only[aB] at h;subst h;rfl
  |some a=>
   obtain⟨i,o,sp⟩:=a
   cases sp with
   |none=>simp only[aB] at h;obtain⟨b,s,c',hb,_,_,rfl⟩:=h;rfl
   |some _=>simp only[aB] at h;obtain⟨_,_,a',c',_,_,rfl⟩:=h;rfl
 |map r=>cases r with
  |none=>simp only[aB] at h;subst h;rfl
  |some a=>simp only[aB] at h;obtain⟨b,s,hb,rfl⟩:=h;rfl
 |func fn a b=>simp only[aB] at h;obtain⟨_,_,_,_,_,_,rfl⟩:=h;rfl
 |iface t v=>simp only[aB] at h;obtain⟨_,_,rfl⟩:=h;rfl
 |_=>simp only[aB] at h;subst h;rfl
end Ye
def gZ (ρ:fN):List (Value×Value×Nat)→List MapEntry→Prop
 |[],es=>es=[]
 |(k,v,n)::l,es=>∃k' v' t,aB ρ k k'∧aB ρ v v'∧gZ ρ l t∧es={key:=k',val:=v',born:=n}::t
theorem gZ.mono {ρ ρ':fN} (h:Ext ρ ρ'):∀(l:List (Value×Value×Nat)) (es:List MapEntry),gZ ρ l es→gZ ρ' l es
 |[],_,k=>k
 |(_,_,_)::l,_,⟨k',v',t,h1,h2,h3,h4⟩=>⟨k',v',t,aB.mono h _ _ h1,aB.mono h _ _ h2,gZ.mono h l t h3,h4⟩
def pA (P:Program) (ρ:fN) (s:Nat×Nat):jN→Obj→Prop
 |.cells c e fz x,o=>∃c':Array Value,o= .cells c' e fz∧aH ρ c ((c'.toList.drop s.2).take c.length)∧s.2+c.length+s.1*P.cellsOf e≤c'.size∧(x=true→s.1=0∧s.2=0)
 |.loop st tR fn tmps params assign body d,o=>∃tmps' d' s',aH ρ tmps tmps'∧ρ d=some (d',s')∧
   o= .loop {state:=st,pending:=tR,fn:=fn,tmps:=⟨tmps'⟩,params:=params,assign:=assign,body:=body,defers:=d'}
 |.marks here,o=>o= .deferred (if here then some [] else none)
 |.map es clock,o=>∃es',gZ ρ es es'∧o= .map ⟨es'⟩ clock
 |.mapIter m since seen last,o=>∃m',(match m with|none=>m'=none|some r=>∃b s,ρ r=some (b,s)∧m'=some b)∧o= .mapIter m' since ⟨seen⟩ last
 |.L6 s pos,o=>o= .stringIter s pos
theorem pA.mono {P:Program} {ρ ρ':fN} (h:Ext ρ ρ') {s:Nat×Nat} {b:jN} {o:Obj} (k:pA P ρ s b o):pA P ρ' s b o:=by
 cases b with
 |cells c e fz x=>obtain⟨c',h1,h2,h3⟩:=k;exact⟨c',h1,aH.mono h _ _ h2,h3⟩
 |loop st tR fn tmps params assign body d=>obtain⟨t',d',s',h1,h2,h3⟩:=k;exact⟨t',d',s',aH.mono h _ _ h1,h _ _ h2,h3⟩
 |marks _=>exact k
 |map es c=>obtain⟨es',h1,h2⟩:=k;exact⟨es',gZ.mono h _ _ h1,h2⟩
 |mapIter m _ _ _=>
  obtain⟨m',h1,h2⟩:=k
  refine⟨m',?_,h2⟩
  cases m with
  |none=>exact h1
  |some r=>obtain⟨b,s,hb,hm⟩:=h1;exact⟨b,s,h _ _ hb,hm⟩
 |L6 s p=>exact k
structure Inv (P:Program) (B:Nat) (ρ:fN) (h:AH) (w:World):Prop where
 nJ:∀i o,h.get i=some o→∀b s,ρ i=some (b,s)→∃o',w.heap[b]?=some o'∧pA P ρ s o o'
 inj:∀i j b si sj,h.base≤i→h.base≤j→(h.get i).isSome→(h.get j).isSome→ρ i=some (b,si)→ρ j=some (b,sj)→i=j
 low:∀i b s,h.base≤i→(h.get i).isSome→ρ i=some (b,s)→B≤b
 old:∀i b s,i<h.base→ρ i=some (b,s)→b<B
 fresh:∀i,h.next≤i→ρ i=none
 fD:∀i,h.next≤i→h.get i=none
 lM:∀g,g<P.globals.size→ρ g=some (g,(0,0))
 size:B≤w.heap.size
 bn:h.base≤h.next
structure hQ (P:Program) (B:Nat) (ρ:fN) (h:AH) (w:World) (ρ':fN) (h':AH) (w':World):Prop where
 ext:Ext ρ ρ'
 inv:Inv P B ρ' h' w'
 un:∀i,i<h.next→ρ i=none→ρ' i=none
 jB:∀i,i<h.next→ρ i=none→h'.get i=h.get i
 stay:∀i,i<h.next→h.get i=none→h'.get i=none
 frame:∀b,b<w.heap.size→(∀i s,h.base≤i→(h.get i).isSome→ρ i≠some (b,s))→w'.heap[b]?=w.heap[b]?
 range:∀i b s,h.base≤i→(h'.get i).isSome→ρ' i=some (b,s)→b<w.heap.size→∃j s',h.base≤j∧(h.get j).isSome∧ρ j=some (b,s')
 base:h'.base=h.base
 oR:∀i,i<h.base→h'.get i=h.get i
 next:h.next≤h'.next
 size:w.heap.size≤w'.heap.size
 os:w'.os=w.os
 out:w'.output=w.output
 tape:w'.tape=w.tape
theorem hQ.refl {P:Program} {B:Nat} {ρ:fN} {h:AH} {w:World} (hi:Inv P B ρ h w):hQ P B ρ h w ρ h w where
 ext:=Ext.refl ρ
 inv:=hi
 un:=fun _ _ h=>h
 jB:=fun _ _ _=>rfl
 stay:=fun _ _ hn=>hn
 frame:=fun _ _ _=>rfl
 range:=fun i _ s h1 h2 h3 _=>⟨i,s,h1,h2,h3⟩
 base:=rfl
 oR:=fun _ _=>rfl
 next:=Nat.le_refl _
 size:=Nat.le_refl _
 os:=rfl
 out:=rfl
 tape:=rfl
theorem hQ.trans {P:Program} {B:Nat} {ρ ρ1 ρ2:fN} {h h1 h2:AH} {w w1 w2:World} (a:hQ P B ρ h w ρ1 h1 w1) (b:hQ P B ρ1 h1 w1 ρ2 h2 w2):hQ P B ρ h w ρ2 h2 w2 where
 ext:=a.ext.trans b.ext
 inv:=b.inv
 un:=fun i hi hn=>b.un i (Nat.lt_of_lt_of_le hi a.next) (a.un i hi hn)
 jB:=fun i hi hn=>(b.jB i (Nat.lt_of_lt_of_le hi a.next) (a.un i hi hn)).trans (a.jB i hi hn)
 stay:=fun i hi hn=>b.stay i (Nat.lt_of_lt_of_le hi a.next) (a.stay i hi hn)
 frame:=fun x hx hn=>by
  refine(b.frame x (Nat.lt_of_lt_of_le hx a.size) ?_).trans (a.frame x hx hn)
  intro i s hb hl he
  rw[a.base] at hb
  obtain⟨j,s',hj1,hj2,hj3⟩:=a.range i x s hb hl he hx
  grind
 range:=fun i x s hb hl he hx=>by
  obtain⟨j,s',hj1,hj2,hj3⟩:=b.range i x s (by rw[a.base];exact hb) hl he (Nat.lt_of_lt_of_le hx a.size)
  rw[a.base] at hj1
  exact a.range j x s' hj1 hj2 hj3 hx
 base:=b.base.trans a.base
 oR:=fun i hi=>(b.oR i (by rw[a.base];exact hi)).trans (a.oR i hi)
 next:=Nat.le_trans a.next b.next
 size:=Nat.le_trans a.size b.size
 os:=b.os.trans a.os
 out:=b.out.trans a.out
 tape:=b.tape.trans a.tape
theorem hQ.below {P:Program} {B:Nat} {ρ ρ':fN} {h h':AH} {w w':World} (hi:Inv P B ρ h w) (e:hQ P B ρ h w ρ' h' w'):Below B w w':=
 ⟨e.os,e.tape,e.out,e.size,fun k hk=>e.frame k (Nat.lt_of_lt_of_le hk hi.size) fun i s hb hl he=>absurd (hi.low i k s hb hl he) (Nat.not_le.2 hk)⟩
end Go.Ab
end
section
namespace Go.Ab
open Go.RowKit
variable {P:Program} {B:Nat} {ρ:fN} {h:AH} {w:World}
def sG (ρ:fN) (i:Nat) (x:Nat×(Nat×Nat)):fN:=fun j=>if j=i then some x else ρ j
theorem bN {i:Nat} {x:Nat×(Nat×Nat)}:sG ρ i x i=some x:=by simp[sG]
theorem aX {i j:Nat} {x:Nat×(Nat×Nat)} (h:j≠i):sG ρ i x j=ρ j:=by simp[sG,h]
theorem Ext.sG {i:Nat} {x:Nat×(Nat×Nat)} (h:ρ i=none):Ext ρ (sG ρ i x):=by
 intro j y hy
 by_cases e:j=i
 ·grind
 ·rw[aX e];exact hy
theorem rU (hi:Inv P B ρ h w) {o:jN} {o':Obj} {s:Nat×Nat} {w':World} (hb:pA P (sG ρ h.next (w.heap.size,s)) s o o')
  (hheap:w'.heap=w.heap.push o') (hos:w'.os=w.os) (hout:w'.output=w.output) (htape:w'.tape=w.tape):
  hQ P B ρ h w (sG ρ h.next (w.heap.size,s)) (h.alloc o) w':=by
 have hext:Ext ρ (sG ρ h.next (w.heap.size,s)):=Ext.sG (hi.fresh _ (Nat.le_refl _))
 have hget:∀j,(h.alloc o).get j=if j=h.next then some o else h.get j:=fun j=>AH.rR hi.bn
 have hlt:∀i b s',ρ i=some (b,s')→i<h.next:=fun i b s' hr=>by
  rcases Nat.lt_or_ge i h.next with h1|h1
  ·exact h1
  ·rw[hi.fresh i h1] at hr;cases hr
 refine {ext:=hext,inv:=?_,un:=?_,jB:=?_,stay:=fun j hj hn=>by grind,frame:=?_,range:=?_,base:=rfl,oR:=?_,next:=by simp,size:=by rw[hheap];simp,os:=hos,out:=hout,tape:=htape}
 ·refine {nJ:=?_,inj:=?_,low:=?_,old:=?_,fresh:=?_,fD:=?_,lM:=?_,size:=by rw[hheap];simp;exact Nat.le_succ_of_le hi.size,bn:=Nat.le_succ_of_le hi.bn}
  ·intro i o1 hg b s1 hr
   rw[hget] at hg
   by_cases e:i=h.next
   ·subst e
    rw[if_pos rfl] at hg;cases hg
    rw[bN] at hr;grind
   ·rw[if_neg e] at hg
    rw[aX e] at hr
    obtain⟨o2,h2,h3⟩:=hi.nJ i o1 hg b s1 hr
    refine⟨o2,?_,h3.mono hext⟩
    grind
  ·intro i j b si sj hbi hbj gi gj ri rj
   rw[hget] at gi gj
   by_cases e:i=h.next
   ·by_cases e':j=h.next
    ·rw[e,e']
    ·rw[if_neg e'] at gj
     rw[aX e'] at rj
     obtain⟨oj,hoj⟩:=Option.isSome_iff_exists.1 gj
     obtain⟨o2,h2,_⟩:=hi.nJ j oj hoj b sj rj
     subst e
     rw[bN] at ri;grind
   ·rw[if_neg e] at gi
    rw[aX e] at ri
    by_cases e':j=h.next
    ·obtain⟨oi,hoi⟩:=Option.isSome_iff_exists.1 gi
     obtain⟨o2,h2,_⟩:=hi.nJ i oi hoi b si ri
     subst e'
     rw[bN] at rj;grind
    ·rw[if_neg e'] at gj
     rw[aX e'] at rj
     exact hi.inj i j b si sj hbi hbj gi gj ri rj
  ·intro i b s1 hbi gi ri
   rw[hget] at gi
   by_cases e:i=h.next
   ·subst e;rw[bN] at ri;cases ri;exact hi.size
   ·rw[if_neg e] at gi;rw[aX e] at ri
    exact hi.low i b s1 hbi gi ri
  ·intro i b s1 hbi ri
   have e:i≠h.next:=fun e=>by have:=hi.bn;simp at hbi;omega
   rw[aX e] at ri
   exact hi.old i b s1 hbi ri
  ·intro i hn
   simp at hn
   rw[aX (by omega)]
   exact hi.fresh i (by omega)
  ·intro i hn
   simp at hn
   rw[hget,if_neg (by omega)]
   exact hi.fD i (by omega)
  ·intro g hg
   have:=hi.lM g hg
   exact hext _ _ this
 ·intro i hn hr
  rw[aX (by omega)];exact hr
 ·grind
 ·grind
 ·intro i b s1 hbi gi ri hlt'
  rw[hget] at gi
  by_cases e:i=h.next
  ·subst e;rw[bN] at ri;cases ri;omega
  ·rw[if_neg e] at gi;rw[aX e] at ri
   grind
 ·intro i hn
  rw[hget,if_neg (by have:=hi.bn;omega)]
theorem pZ (hi:Inv P B ρ h w) {i b:Nat} {s:Nat×Nat} {o0 o:jN} {o':Obj} {w':World} (hbi:h.base≤i) (hg:h.get i=some o0) (hr:ρ i=some (b,s)) (hb:pA P ρ s o o')
  (hheap:w'.heap=w.heap.setIfInBounds b o') (hos:w'.os=w.os) (hout:w'.output=w.output) (htape:w'.tape=w.tape):
  hQ P B ρ h w ρ (h.set i (some o)) w':=by
 have hget:∀j,(h.set i (some o)).get j=if j=i then some o else h.get j:=fun j=>AH.fJ hbi
 have hsome:∀j,((h.set i (some o)).get j).isSome→(h.get j).isSome:=fun j hj=>by
  grind
 obtain⟨ob,hob,_⟩:=hi.nJ i o0 hg b s hr
 have hbl:b<w.heap.size:=(Array.getElem?_eq_some_iff.1 hob).1
 have hin:i<h.next:=by
  rcases Nat.lt_or_ge i h.next with h1|h1
  ·exact h1
  ·rw[hi.fD i h1] at hg;cases hg
 refine {ext:=Ext.refl _,inv:=?_,un:=fun _ _ h=>h,jB:=?_,stay:=fun j hj hn=>by grind,frame:=?_,range:=?_,base:=AH.Ip,oR:=?_,next:=by simp,size:=by rw[hheap];simp,os:=hos,out:=hout,tape:=htape}
 ·refine {nJ:=?_,inj:=?_,low:=?_,old:=?_,fresh:=?_,fD:=?_,lM:=hi.lM,size:=by rw[hheap];simp;exact hi.size,bn:=by simp;exact hi.bn}
  ·intro j oj gj bj sj rj
   rw[hget] at gj
   by_cases e:j=i
   ·grind
   ·rw[if_neg e] at gj
    obtain⟨o2,h2,h3⟩:=hi.nJ j oj gj bj sj rj
    refine⟨o2,?_,h3⟩
    have hne:b≠bj:=by
     intro hbb
     subst hbb
     rcases Nat.lt_or_ge j h.base with h4|h4
     ·have:=hi.old j b sj h4 rj
      have:=hi.low i b s hbi (by rw[hg];rfl) hr
      omega
     ·exact e (hi.inj j i b sj s h4 hbi (by rw[gj];rfl) (by rw[hg];rfl) rj hr)
    grind
  ·intro j k bb sj sk hj hk gj gk rj rk
   simp at hj hk
   exact hi.inj j k bb sj sk hj hk (hsome j gj) (hsome k gk) rj rk
  ·intro j bb sj hj gj rj
   simp at hj
   exact hi.low j bb sj hj (hsome j gj) rj
  ·intro j bb sj hj rj
   simp at hj
   exact hi.old j bb sj hj rj
  ·intro j hj
   simp at hj
   exact hi.fresh j hj
  ·intro j hj
   simp at hj
   rw[hget,if_neg (by omega)]
   exact hi.fD j hj
 ·grind
 ·grind
 ·grind
 grind
theorem Ii (hi:Inv P B ρ h w) {i b:Nat} {s s':Nat×Nat} {o0 o:jN} {o':Obj} {w':World} (hbi:h.base≤i) (hg:h.get i=some o0) (hr:ρ i=some (b,s)) (hb:pA P (sG ρ h.next (b,s')) s' o o')
  (hheap:w'.heap=w.heap.setIfInBounds b o') (hos:w'.os=w.os) (hout:w'.output=w.output) (htape:w'.tape=w.tape):
  hQ P B ρ h w (sG ρ h.next (b,s')) ((h.set i none).alloc o) w':=by
 have hext:Ext ρ (sG ρ h.next (b,s')):=Ext.sG (hi.fresh _ (Nat.le_refl _))
 have hget:∀j,((h.set i none).alloc o).get j=if j=h.next then some o else if j=i then none else h.get j:=fun j=>by
  rw[AH.rR (by simp;exact hi.bn),AH.fJ hbi];simp
 obtain⟨ob,hob,_⟩:=hi.nJ i o0 hg b s hr
 have hbl:b<w.heap.size:=(Array.getElem?_eq_some_iff.1 hob).1
 have hin:i<h.next:=by
  rcases Nat.lt_or_ge i h.next with h1|h1
  ·exact h1
  ·rw[hi.fD i h1] at hg;cases hg
 have hbB:=hi.low i b s hbi (by rw[hg];rfl) hr
 have key:∀j bj sj,j≠h.next→((h.set i none).alloc o).get j≠none→ρ j=some (bj,sj)→(h.get j).isSome∧j≠i∧b≠bj:=by
  intro j bj sj e gj rj
  rw[hget,if_neg e] at gj
  by_cases e':j=i
  ·grind
  ·rw[if_neg e'] at gj
   have hs:(h.get j).isSome:=by cases hh:h.get j with|none=>exact absurd hh gj|some _=>rfl
   refine⟨hs,e',?_⟩
   intro hbb
   subst hbb
   rcases Nat.lt_or_ge j h.base with h4|h4
   ·have:=hi.old j b sj h4 rj
    omega
   ·exact e' (hi.inj j i b sj s h4 hbi hs (by rw[hg];rfl) rj hr)
 refine {ext:=hext,inv:=?_,un:=?_,jB:=?_,stay:=fun j hj hn=>by grind,frame:=?_,range:=?_,base:=by simp,oR:=?_,next:=by simp,size:=by rw[hheap];simp,os:=hos,out:=hout,tape:=htape}
 ·refine {nJ:=?_,inj:=?_,low:=?_,old:=?_,fresh:=?_,fD:=?_,lM:=fun g hg'=>hext _ _ (hi.lM g hg'),size:=by grind,bn:=by simp;grind}
  ·intro j oj gj bj sj rj
   by_cases e:j=h.next
   ·subst e
    rw[hget,if_pos rfl] at gj;cases gj
    rw[bN] at rj;grind
   ·rw[aX e] at rj
    obtain⟨_,e',hne⟩:=key j bj sj e (by rw[gj];simp) rj
    rw[hget,if_neg e,if_neg e'] at gj
    obtain⟨o2,h2,h3⟩:=hi.nJ j oj gj bj sj rj
    exact⟨o2,by grind,h3.mono hext⟩
  ·intro j k bb sj sk hj hk gj gk rj rk
   simp at hj hk
   by_cases e:j=h.next
   ·by_cases e2:k=h.next
    ·rw[e,e2]
    ·rw[aX e2] at rk
     obtain⟨_,_,hne⟩:=key k bb sk e2 (by grind) rk
     subst e;rw[bN] at rj;grind
   ·rw[aX e] at rj
    obtain⟨s1,_,hne⟩:=key j bb sj e (by grind) rj
    by_cases e2:k=h.next
    ·subst e2;rw[bN] at rk;grind
    ·rw[aX e2] at rk
     obtain⟨s2,_,_⟩:=key k bb sk e2 (by grind) rk
     exact hi.inj j k bb sj sk hj hk s1 s2 rj rk
  ·intro j bb sj hj gj rj
   simp at hj
   by_cases e:j=h.next
   ·subst e;rw[bN] at rj;cases rj;exact hbB
   ·rw[aX e] at rj
    obtain⟨s1,_,_⟩:=key j bb sj e (by grind) rj
    exact hi.low j bb sj hj s1 rj
  ·intro j bb sj hj rj
   simp at hj
   have e:j≠h.next:=by have:=hi.bn;omega
   rw[aX e] at rj
   exact hi.old j bb sj hj rj
  ·intro j hj
   simp at hj
   rw[aX (by omega)]
   exact hi.fresh j (by omega)
  ·intro j hj
   simp at hj
   rw[hget,if_neg (by omega),if_neg (by omega)]
   exact hi.fD j (by omega)
 ·intro j hj hn
  rw[aX (by omega)];exact hn
 ·grind
 ·grind
 ·intro j bb sj hj gj rj _
  by_cases e:j=h.next
  ·subst e;rw[bN] at rj;grind
  ·rw[aX e] at rj
   grind
 grind
theorem bG (b o n:Nat):Addr.add ⟨b,o,none⟩ n=⟨b,o+n,none⟩:=by
 unfold Addr.add
 grind
theorem nN {b e o:Nat} {c:Array Value} {fz:Nat×Nat} (hb:w.heap[b]?=some (.cells c e fz)):w.cell? ⟨b,o,none⟩=c[o]?:=by
 simp[World.cell?,hb]
theorem kG (hi:Inv P B ρ h w) {a:Addr} {b n:Nat} {s:Nat×Nat} {l:List Value} (hr:ρ a.block=some (b,s)) (hl:aW h a n=some l):
  ∃l',(loadCells ⟨b,a.off+s.2,none⟩ n).run P w= .ok ⟨l'⟩ w∧aH ρ l l'∧a.spot=none∧l.length=n:=by
 unfold aW at hl
 cases hs:a.spot with
 |some x=>simp[hs] at hl
 |none=>
  simp only[hs,Option.isSome_none,Bool.false_eq_true,if_false] at hl
  split at hl
  ·rename_i c e fz x hg
   split at hl
   ·rename_i hle
    cases hl
    obtain⟨o',ho,c',rfl,hc,hsz,_⟩:=hi.nJ _ _ hg b s hr
    have hlen:=hc.length
    have hcd:(c'.toList.drop s.2).length=c'.size - s.2:=by simp
    refine⟨(((c'.toList.drop s.2).take c.length).drop a.off).take n,?_,(hc.drop _).take _,rfl,by simp;omega⟩
    have hn:((((c'.toList.drop s.2).take c.length).drop a.off).take n).length=n:=by
     grind
    have:=run_loadCells_list (P:=P) (w:=w) ⟨b,a.off+s.2,none⟩ ((((c'.toList.drop s.2).take c.length).drop a.off).take n) (fun j v hj=>by
     rw[bG,nN ho]
     grind)
    grind
   ·cases hl
  ·cases hl
theorem jU {b e:Nat} {fz:Nat×Nat} (hfz:fz.2=0):∀(vs:List Value) (w:World) (c:Array Value) (off i:Nat),w.heap[b]?=some (.cells c e fz)→(∀v∈vs,v.oneCell'=true)→off+i+vs.length≤c.size→
  ∃w',(storeCells ⟨b,off,none⟩ vs i).run P w= .ok () w'∧w'.heap=w.heap.setIfInBounds b (.cells ⟨aT c.toList (off+i) vs⟩ e fz)∧w'.os=w.os∧w'.output=w.output∧w'.tape=w.tape
 |[],w,c,off,i,hb,_,_=>by
  refine⟨w,by simp[storeCells],?_,rfl,rfl,rfl⟩
  simp only[aT,List.append_nil,List.length_nil,Nat.add_zero,List.take_append_drop]
  obtain⟨hlt,hb'⟩:=Array.getElem?_eq_some_iff.1 hb
  apply Array.ext_getElem?
  intro j
  by_cases e':b=j
  ·subst e';simp[hlt,hb']
  grind
 |v::vs,w,c,off,i,hb,hv,hsz=>by
  simp only[List.length_cons] at hsz
  have h1:w.cell? ⟨b,off+i,none⟩=some c[off+i]:=by rw[nN hb];grind
  have h2:w.frozen? ⟨b,off+i,none⟩=false:=by simp[World.frozen?,hb,hfz]
  have hb2:(w.setCell ⟨b,off+i,none⟩ v).heap[b]?=some (.cells (c.setIfInBounds (off+i) v) e fz):=by
   simp[World.setCell,Array.getElem?_modify,hb]
  obtain⟨w',hr,hh,ho,hu,ht⟩:=jU hfz vs (w.setCell ⟨b,off+i,none⟩ v) (c.setIfInBounds (off+i) v) off (i+1) hb2 (fun u hu=>hv u (List.mem_cons_of_mem _ hu)) (by simp;omega)
  refine⟨w',?_,?_,ho,hu,ht⟩
  ·simp only[storeCells,Sem.run_bind]
   rw[bG,run_store P w _ v _ (hv v List.mem_cons_self)]
   simp_all
  ·rw[hh]
   apply Array.ext_getElem?
   intro j
   by_cases e':b=j
   ·subst e'
    have hlt:=(Array.getElem?_eq_some_iff.1 hb).1
    simp only[World.setCell]
    rw[Array.getElem?_setIfInBounds_self,Array.getElem?_setIfInBounds_self]
    simp only[Array.size_modify,hlt,if_true]
    congr 2
    apply Array.ext'
    simp only[aT,Array.toList_setIfInBounds,List.length_cons]
    rw[show off+(i+1)=off+i+1 by omega,List.take_succ_eq_append_getElem (by simp;omega)]
    simp only[List.getElem_set_self,List.append_assoc,List.nil_append,List.take_set_of_le (Nat.le_refl _),List.cons_append]
    rw[List.drop_set_of_lt (by omega),show off+i+1+vs.length=off+i+(vs.length+1) by omega]
   ·rw[Array.getElem?_setIfInBounds_ne e',Array.getElem?_setIfInBounds_ne e']
    simp[World.setCell,Array.getElem?_modify,e']
theorem rS (hi:Inv P B ρ h w) {a:Addr} {b:Nat} {s:Nat×Nat} {vs vs':List Value} {h':AH} (hr:ρ a.block=some (b,s)) (hl:cA h a vs=some h') (hv:aH ρ vs vs'):
  ∃w',(storeCells ⟨b,a.off+s.2,none⟩ vs').run P w= .ok () w'∧hQ P B ρ h w ρ h' w'∧a.spot=none:=by
 unfold cA at hl
 split at hl
 ·cases hl
 rename_i hcond
 simp only[Bool.or_eq_true,not_or,Bool.not_eq_true,decide_eq_false_iff_not,Bool.not_eq_false'] at hcond
 obtain⟨⟨hs,hbase⟩,hall⟩:=hcond
 have hs:a.spot=none:=by cases hh:a.spot with|none=>rfl|some _=>rw[hh] at hs;cases hs
 split at hl
 ·rename_i c e fz x hg
  split at hl
  ·rename_i hle
   cases hl
   obtain⟨o',ho,c',rfl,hc,hsz,hx⟩:=hi.nJ _ _ hg b s hr
   have hlen:=hc.length
   have hvl:=hv.length
   have hone:∀v∈vs',v.oneCell'=true:=by
    intro v hv'
    obtain⟨j,hj⟩:=List.getElem?_of_mem hv'
    have hjl:j<vs.length:=by
     grind
    obtain⟨u,hu,hru⟩:=hv.get (List.getElem?_eq_getElem hjl)
    rw[hj] at hu;cases hu
    exact hru.Ft (List.all_eq_true.1 hall _ (List.getElem_mem hjl))
   simp only[List.length_take] at hlen
   obtain⟨w',hrun,hheap,hos,hout,htape⟩:=jU (P:=P) hle.1 vs' w c' (a.off+s.2) 0 ho hone (by simp at hlen ⊢;omega)
   refine⟨w',hrun,pZ hi (Nat.not_lt.1 hbase) hg hr (o:= .cells (aT c a.off vs) e fz x) ⟨_,rfl,?_,?_,hx⟩ hheap hos hout htape,hs⟩
   ·have:((aT c'.toList (a.off+s.2+0) vs').drop s.2).take (aT c a.off vs).length=aT ((c'.toList.drop s.2).take c.length) a.off vs':=by
     have hd:(aT c'.toList (a.off+s.2+0) vs').drop s.2=aT (c'.toList.drop s.2) a.off vs':=by
      unfold aT
      simp only[Nat.add_zero]
      rw[List.append_assoc,List.drop_append_of_le_length (by simp;omega),List.drop_take,List.drop_drop,List.append_assoc]
      rw[show a.off+s.2 - s.2=a.off by omega,show s.2+(a.off+vs'.length)=a.off+s.2+vs'.length by omega]
     rw[hd]
     unfold aT
     rw[List.take_append,List.take_append]
     simp only[List.length_append,List.length_take,List.length_drop,List.take_take]
     have e1:min a.off c.length=a.off:=by omega
     have e2:a.off+vs.length+(c.length - (a.off+vs.length))=c.length:=by omega
     rw[e1,e2]
     have e3:min c.length a.off=a.off:=by omega
     have e4:min a.off (c'.toList.length - s.2)=a.off:=by grind
     rw[e3,e4]
     congr 1
     ·congr 1
      rw[List.take_of_length_le (by omega)]
     grind
    show aH ρ _ (((aT c'.toList (a.off+s.2+0) vs').drop s.2).take (aT c a.off vs).length)
    rw[this]
    exact hc.aT _ hv
   ·simp only[aT,List.length_append,List.length_take,List.length_drop] at*
    grind
  ·cases hl
 ·cases hl
end Go.Ab
end
section
namespace Go.Ab
open Go.RowKit
variable {P:Program} {B:Nat} {ρ:fN} {h:AH} {w:World}
theorem C1 {t:TypeId} (hn:P.cellsOf t≠0):∃i,P.info? t=some i∧i.size=P.cellsOf t:=by
 unfold Program.cellsOf at hn ⊢
 cases hi:P.info? t with
 |none=>simp[hi] at hn
 |some i=>grind
theorem dJ {t:TypeId} {i:TypeInfo} (hi:P.info? t=some i):(sizeOf t).run P w= .ok (P.cellsOf t) w:=by
 simp[sizeOf,typeInfo,hi,Program.cellsOf]
theorem yM {t:TypeId} {d:TypeDesc} (hd:P.underlying t=some d):∃i,P.info? t=some i:=by
 unfold Program.underlying at hd
 grind
theorem zH {t:TypeId} {b:Bool} (hb:fR P t=some b):(isAgg t).run P w= .ok b w:=by
 unfold fR at hb
 cases hd:P.underlying t with
 |none=>simp[hd] at hb
 |some d=>
  rw[hd] at hb
  simp only[Option.map_some,Option.some.injEq] at hb
  unfold isAgg
  simp only[Sem.run_bind,run_underlying hd,Result.andThen_ok]
  subst hb
  cases d<;>rfl
theorem Ix {t:TypeId} {b:Bool} (hb:fR P t=some b):∃i,P.info? t=some i:=by
 unfold fR at hb
 cases hd:P.underlying t with
 |none=>simp[hd] at hb
 |some d=>exact yM hd
theorem lV {e:TypeId} {z:List Value} (hz:zeroOf P e=some z):
  ∃i zv,P.info? e=some i∧i.zero=some zv∧(zeroValue e).run P w= .ok zv w∧zv.cells.toList=z∧z.length=P.cellsOf e∧(∀ρ:fN,aH ρ z z):=by
 unfold zeroOf at hz
 cases hi:P.info? e with
 |none=>simp[hi] at hz
 |some i=>
  cases hz0:i.zero with
  |none=>simp[hi,hz0] at hz
  |some zv=>
   simp only[hi,hz0,Option.bind_some] at hz
   split at hz
   ·rename_i hc
    simp only[Bool.and_eq_true,beq_iff_eq] at hc
    cases hz
    refine⟨i,zv,rfl,hz0,by simp[zeroValue,typeInfo,hi,hz0],rfl,by simpa using hc.2,fun ρ=>?_⟩
    have hp:=eI (ρ:=ρ) zv hc.1.1
    exact hp.cells (by cases zv<;>first|rfl|simp[cG] at hc)
   ·cases hz
theorem nR {t:TypeId} {cs cs':List Value} {off:Nat} {v:Value} (hv:apart P t cs off=some v) (hc:aH ρ cs cs'):
  ∃v',(part t ⟨cs'⟩ off).run P w= .ok v' w∧aB ρ v v':=by
 unfold apart at hv
 cases hb:fR P t with
 |none=>simp[hb] at hv
 |some b=>
  obtain⟨i,hi⟩:=Ix hb
  rw[hb] at hv
  cases b with
  |true=>
   simp only at hv
   split at hv
   ·cases hv
    refine⟨.agg ⟨(cs'.drop off).take (P.cellsOf t)⟩,?_,?_⟩
    ·simp only[part,Sem.run_bind,zH hb,Result.andThen_ok,if_true,dJ hi,Sem.run_pure]
     grind
    ·simp only[aB]
     exact⟨_,by simp only[iC];exact(hc.drop off).take _,rfl⟩
   ·cases hv
  |false=>
   simp only at hv
   obtain⟨v',hv',hr⟩:=hc.get hv
   refine⟨v',?_,hr⟩
   simp only[part,Sem.run_bind,zH hb,Result.andThen_ok]
   simp[hv']
theorem zR (hi:Inv P B ρ h w) {t:TypeId} {a:Addr} {a' v:Value} (ha:aB ρ (.pointer (some a)) a') (hv:lW P h t a=some v):
  ∃v',(Instr.loadAt t a').run P w= .ok v' w∧aB ρ v v':=by
 simp only[aB] at ha
 obtain⟨b,s,hr,rfl⟩:=ha
 unfold lW at hv
 cases hb:fR P t with
 |none=>simp[hb] at hv
 |some x=>
  obtain⟨i,hinf⟩:=Ix hb
  rw[hb] at hv
  cases x with
  |true=>
   simp only[Option.map_eq_some_iff] at hv
   obtain⟨l,hl,rfl⟩:=hv
   obtain⟨l',hrun,hrel,hs,_⟩:=kG hi hr hl
   refine⟨.agg ⟨l'⟩,?_,?_⟩
   ·rw[hs]
    simp only[Instr.loadAt,Instr.sureAddr,loadVar,Sem.run_bind,Sem.run_pure,Result.andThen_ok,zH hb,if_true,dJ hinf,hrun]
   ·simp only[aB];exact⟨_,by simp only[iC];exact hrel,rfl⟩
  |false=>
   simp only at hv
   split at hv
   ·cases hv
   ·rename_i hs
    have hs:a.spot=none:=by cases hh:a.spot with|none=>rfl|some _=>rw[hh] at hs;exact absurd rfl hs
    split at hv
    ·rename_i c e fz x hg
     obtain⟨o',ho,c',rfl,hc,hsz,_⟩:=hi.nJ _ _ hg b s hr
     obtain⟨v',hv',hrel⟩:=hc.get hv
     refine⟨v',?_,hrel⟩
     have hcell:w.cell? ⟨b,a.off+s.2,none⟩=some v':=by
      rw[nN ho]
      rw[List.getElem?_take] at hv'
      split at hv'
      ·rw[List.getElem?_drop] at hv'
       rw[Nat.add_comm]
       simpa using hv'
      ·cases hv'
     rw[hs]
     simp only[Instr.loadAt,Instr.sureAddr,loadVar,Sem.run_bind,Sem.run_pure,Result.andThen_ok,zH hb]
     simp[hcell]
    ·cases hv
theorem H8 (hi:Inv P B ρ h w) {t:TypeId} {a:Addr} {a' v v':Value} {h':AH} (ha:aB ρ (.pointer (some a)) a') (hv:aB ρ v v') (hs:zV P h t a v=some h'):
  ∃w',(Instr.storeAt t a' v').run P w= .ok () w'∧hQ P B ρ h w ρ h' w':=by
 simp only[aB] at ha
 obtain⟨b,s,hr,rfl⟩:=ha
 unfold zV fF at hs
 cases ht:qA v with
 |true=>simp[ht] at hs
 |false=>
  simp only[ht,Bool.false_eq_true,if_false] at hs
  split at hs
  ·rename_i hc
   obtain⟨hlen,hsome⟩:=hc
   obtain⟨i,hinf⟩:=Option.isSome_iff_exists.1 hsome
   have hcells:=hv.cells ht
   obtain⟨w',hrun,hevo,hspot⟩:=rS hi hr hs hcells
   refine⟨w',?_,hevo⟩
   rw[hspot]
   have hl:=hcells.length
   simp only[Instr.storeAt,Instr.sureAddr,storeVar,Sem.run_bind,Sem.run_pure,Result.andThen_ok,dJ hinf]
   grind
  ·cases hs
def Cw (ρ:fN):List (Nat×Value)→List (Nat×Value)→Prop
 |[],l=>l=[]
 |(i,v)::l,l'=>∃v' t,aB ρ v v'∧Cw ρ l t∧l'=(i,v')::t
theorem xK:∀(vs:List Value) (c:Array Value) (off i:Nat),off+i+vs.length≤c.size→
  ((vs.zipIdx i).foldl (fun cs (x:Value×Nat)=>cs.setIfInBounds (off+x.2) x.1) c)=⟨aT c.toList (off+i) vs⟩
 |[],c,off,i,_=>by
  apply Array.ext'
  simp[aT]
 |v::vs,c,off,i,hsz=>by
  simp only[List.length_cons] at hsz
  simp only[List.zipIdx_cons,List.foldl_cons]
  rw[xK vs (c.setIfInBounds (off+i) v) off (i+1) (by simp;omega)]
  congr 1
  simp only[aT,Array.toList_setIfInBounds,List.length_cons]
  rw[show off+(i+1)=off+i+1 by omega,List.take_succ_eq_append_getElem (by simp;omega)]
  simp only[List.getElem_set_self,List.append_assoc,List.nil_append,List.take_set_of_le (Nat.le_refl _),List.cons_append]
  rw[List.drop_set_of_lt (by omega),show off+i+1+vs.length=off+i+(vs.length+1) by omega]
theorem vI {place:Nat→Option (Nat×Nat)}:∀(parts parts':List (Nat×Value)) (cells cells' r:List Value),Cw ρ parts parts'→aH ρ cells cells'→vR place cells parts=some r→
  ∃r',Instr.fill place ⟨cells'⟩ parts'=some ⟨r'⟩∧aH ρ r r'
 |[],parts',cells,cells',r,hp,hc,hf=>by
  simp only[Cw] at hp;subst hp
  simp only[vR,Option.some.injEq] at hf;subst hf
  exact⟨cells',rfl,hc⟩
 |(i,v)::parts,parts',cells,cells',r,hp,hc,hf=>by
  simp only[Cw] at hp
  obtain⟨v',t,hv,ht,rfl⟩:=hp
  simp only[vR] at hf
  split at hf
  ·rename_i off size vs hpl hcv
   unfold fF at hcv
   split at hcv
   ·cases hcv
   ·rename_i htop
    cases hcv
    split at hf
    ·rename_i hsz
     have hcells:=hv.cells (by simpa using htop)
     have hl:=hcells.length
     have hcl:=hc.length
     obtain⟨r',hr',hrel⟩:=vI parts t _ _ r ht (hc.aT off hcells) hf
     refine⟨r',?_,hrel⟩
     simp only[Instr.fill,hpl]
     simp only[Array.length_toList] at hl hsz
     rw[if_neg]
     ·rw[←Array.foldl_toList,Array.toList_zipIdx]
      rw[xK v'.cells.toList ⟨cells'⟩ off 0 (by simp;omega)]
      simpa using hr'
     grind
    ·cases hf
  ·cases hf
theorem Cw.map {α:Type} {f g:α→Value} {k:α→Nat} (hfg:∀x,aB ρ (f x) (g x)):∀l:List α,Cw ρ (l.map fun p=>(k p,f p)) (l.map fun p=>(k p,g p))
 |[]=>rfl
 |x::l=>⟨g x,_,hfg x,Cw.map hfg l,rfl⟩
theorem zW:∀(fs:List Field),(∀f∈fs,(P.info? f.type).isSome)→
  (fs.mapM (m:=Sem) fun f=>do pure (f.offset,←sizeOf f.type)).run P w= .ok (fs.map fun f=>(f.offset,P.cellsOf f.type)) w
 |[],_=>by simp
 |f::fs,hf=>by
  obtain⟨i,hi⟩:=Option.isSome_iff_exists.1 (hf f List.mem_cons_self)
  simp only[List.mapM_cons,Sem.run_bind,dJ hi,Result.andThen_ok,Sem.run_pure,zW fs (fun g hg=>hf g (List.mem_cons_of_mem _ hg)),List.map_cons]
theorem Hf {t:TypeId} {parts:List (Nat×Value)} {parts':Array (Nat×Value)} {v:Value} (hp:Cw ρ parts parts'.toList) (hv:wJ P t parts=some v):
  ∃v',(Instr.build t parts').run P w= .ok v' w∧aB ρ v v':=by
 unfold wJ at hv
 split at hv
 ·rename_i z fs hz hd
  obtain⟨i,zv,_,_,hzr,hzc,_,hzz⟩:=lV (w:=w) hz
  split at hv
  ·rename_i hall
   simp only[Option.map_eq_some_iff] at hv
   obtain⟨l,hl,rfl⟩:=hv
   obtain⟨r',hr',hrel⟩:=vI parts parts'.toList z z l hp (hzz ρ) hl
   refine⟨.agg ⟨r'⟩,?_,by simp only[aB];exact⟨_,by simp only[iC];exact hrel,rfl⟩⟩
   have hz':zv.cells=⟨z⟩:=by rw[←hzc]
   have hpl:(fs.mapM (m:=Sem) fun f=>do pure (f.offset,←sizeOf f.type)).run P w= .ok (fs.map fun f=>(f.offset,P.cellsOf f.type)) w:=by
    rw[Array.mapM_eq_mapM_toList]
    simp only[Sem.run_map]
    rw[zW fs.toList (fun f hf=>by
     have:=Array.all_eq_true'.1 hall f (by simpa using hf)
     exact this)]
    simp only[Result.andThen_ok,Result.ok.injEq,and_true]
    grind
   simp only[Instr.build,Sem.run_bind,hzr,Result.andThen_ok,run_underlying hd,hpl,hz']
   simp_all
  ·cases hv
 ·rename_i z n e hz hd
  obtain⟨i,zv,_,_,hzr,hzc,_,hzz⟩:=lV (w:=w) hz
  split at hv
  ·rename_i he
   obtain⟨ie,hie⟩:=Option.isSome_iff_exists.1 he
   simp only[Option.map_eq_some_iff] at hv
   obtain⟨l,hl,rfl⟩:=hv
   obtain⟨r',hr',hrel⟩:=vI parts parts'.toList z z l hp (hzz ρ) hl
   refine⟨.agg ⟨r'⟩,?_,by simp only[aB];exact⟨_,by simp only[iC];exact hrel,rfl⟩⟩
   have hz':zv.cells=⟨z⟩:=by rw[←hzc]
   simp only[Instr.build,Sem.run_bind,hzr,Result.andThen_ok,run_underlying hd,dJ hie,hz',hr']
   rfl
  ·cases hv
 ·cases hv
end Go.Ab
end
section
namespace Go.Ab
open Go.RowKit
variable {P:Program} {B:Nat} {ρ:fN} {h:AH} {w:World}
def rH (ρ:fN):Option Value→Option Value→Prop
 |none,v=>v=none
 |some v,v'=>∃u,aB ρ v u∧v'=some u
theorem rH.map {ev ev':Operand→Value} (hev:∀x,aB ρ (ev x) (ev' x)) (o:Option Operand):rH ρ (o.map ev) (o.map ev'):=by
 cases o with
 |none=>rfl
 |some x=>exact⟨_,hev x,rfl⟩
theorem lO {v v':Value} (hv:aB ρ v v') {d y y' r:Nat} (hy:y≤y') (hb:iX (some v) d y=some r):(∀code,(Instr.sliceBound v' y' code).run P w= .ok r w)∧r≤y:=by
 unfold iX at hb
 split at hb
 ·rename_i he;cases he
 ·rename_i k i he
  cases he
  simp only[aB] at hv
  subst hv
  split at hb
  ·rename_i hi
   cases hb
   exact⟨fun code=>run_sliceBound w k i y' code hi.1 (by omega),by omega⟩
  ·cases hb
 ·cases hb
theorem mD {lo hi mx lo' hi' mx':Option Value} (hlo:rH ρ lo lo') (hhi:rH ρ hi hi') (hmx:rH ρ mx mx') (Oj:Bool) {len cap cap' m hh l:Nat} (hc:cap≤cap')
  (h1:iX mx cap cap=some m) (h2:(if hi.isNone&&mx.isSome then none else iX hi len m)=some hh) (h3:iX lo 0 hh=some l):
  (Instr.sliceBounds Oj len cap' lo' hi' mx').run P w= .ok (l,hh,if mx.isSome then m else cap') w∧m≤cap∧l≤hh∧(mx=none→m=cap):=by
 cases mx with
 |none=>
  simp only[rH] at hmx;subst hmx
  simp only[iX,Option.some.injEq] at h1;subst h1
  cases hi with
  |none=>
   simp only[rH] at hhi;subst hhi
   simp[iX] at h2;subst h2
   cases lo with
   |none=>simp only[rH] at hlo;subst hlo;simp[iX] at h3;subst h3;simp[Instr.sliceBounds]
   |some v=>
    obtain⟨u,hu,rfl⟩:=hlo
    obtain⟨hr,hle⟩:=lO (P:=P) (w:=w) hu (Nat.le_refl _) h3
    simp[Instr.sliceBounds,hr,hle]
  |some v=>
   obtain⟨u,hu,rfl⟩:=hhi
   simp at h2
   obtain⟨hr,hle⟩:=lO (P:=P) (w:=w) hu hc h2
   cases lo with
   |none=>simp only[rH] at hlo;subst hlo;simp[iX] at h3;subst h3;simp[Instr.sliceBounds,hr]
   |some v=>
    obtain⟨u,hu,rfl⟩:=hlo
    obtain⟨hr2,hle2⟩:=lO (P:=P) (w:=w) hu (Nat.le_refl _) h3
    simp[Instr.sliceBounds,hr,hr2,hle2]
 |some x=>
  obtain⟨ux,hux,rfl⟩:=hmx
  obtain⟨hr0,hle0⟩:=lO (P:=P) (w:=w) hux hc h1
  cases hi with
  |none=>simp at h2
  |some v=>
   obtain⟨u,hu,rfl⟩:=hhi
   simp at h2
   obtain⟨hr,hle⟩:=lO (P:=P) (w:=w) hu (Nat.le_refl _) h2
   cases lo with
   |none=>simp only[rH] at hlo;subst hlo;simp[iX] at h3;subst h3;simp[Instr.sliceBounds,hr0,hr,hle0]
   |some v=>
    obtain⟨u,hu,rfl⟩:=hlo
    obtain⟨hr2,hle2⟩:=lO (P:=P) (w:=w) hu (Nat.le_refl _) h3
    simp[Instr.sliceBounds,hr0,hr,hr2,hle2,hle0]
theorem Gu (hi:Inv P B ρ h w) {t:TypeId} {x x':Value} {lo hi_ mx lo' hi' mx':Option Value} {v:Value} (hx:aB ρ x x') (hlo:rH ρ lo lo') (hhi:rH ρ hi_ hi') (hmx:rH ρ mx mx')
  (hv:lT P h t x lo hi_ mx=some v):∃v',(Instr.sliceAt t x' lo' hi' mx').run P w= .ok v' w∧aB ρ v v':=by
 unfold lT at hv
 split at hv
 ·
  rename_i n e a hd
  simp only[aB] at hx
  obtain⟨b,s,hr,rfl⟩:=hx
  split at hv
  ·rename_i m h1
   split at hv
   ·rename_i hh h2
    split at hv
    ·rename_i l h3
     split at hv
     ·rename_i hc
      cases hv
      obtain⟨i,hinf⟩:=Option.isSome_iff_exists.1 hc.1
      obtain⟨hb,_,_,hm⟩:=mD (P:=P) (w:=w) hlo hhi hmx false (Nat.le_refl n) h1 h2 h3
      have hmm:(if mx.isSome then m else n)=m:=by simp_all
      rw[hmm] at hb
      obtain⟨ab,ao,asp⟩:=a
      obtain rfl:asp=none:=hc.2
      refine⟨.slice (some (if m=l then⟨b,ao+s.2,none⟩ else Addr.add ⟨b,ao+s.2,none⟩ (l*P.cellsOf e))) (hh - l) (m - l),?_,?_⟩
      ·simp only[Instr.sliceAt,Sem.run_bind,run_underlying hd,Result.andThen_ok,Instr.sureAddr,Sem.run_pure,hb,dJ hinf]
      ·rw[bG,bG]
       split<;>(simp only[aB];exact⟨b,s,_,hr,Nat.le_refl _,Nat.le_add_right _ _,by grind⟩)
     ·cases hv
    ·cases hv
   ·cases hv
  ·cases hv
 ·
  rename_i s hd
  simp only[aB] at hx;subst hx
  split at hv
  ·cases hv
  ·rename_i hmx0
   have hmx0:mx=none:=by simp_all
   subst hmx0
   split at hv
   ·rename_i hh h2
    split at hv
    ·rename_i l h3
     cases hv
     obtain⟨hb,_⟩:=mD (P:=P) (w:=w) hlo hhi hmx false (Nat.le_refl s.size) (m:=s.size) rfl (by simpa using h2) h3
     simp only[rH] at hmx;subst hmx
     refine⟨.string (s.extract l hh),?_,by simp only[aB]⟩
     simp only[Instr.sliceAt,Instr.slice,Sem.run_bind,run_underlying hd,Result.andThen_ok,Option.isSome_none,Bool.false_eq_true,if_false,Sem.run_pure] at hb ⊢
     simp[hb]
    ·cases hv
   ·cases hv
 ·
  rename_i e len cap hd
  simp only[aB] at hx;subst hx
  split at hv
  ·rename_i m h1
   split at hv
   ·rename_i hh h2
    split at hv
    ·rename_i l h3
     split at hv
     ·rename_i hc
      cases hv
      obtain⟨i,hinf⟩:=Option.isSome_iff_exists.1 hc
      obtain⟨hb,_,_,hm⟩:=mD (P:=P) (w:=w) hlo hhi hmx true (Nat.le_refl cap) h1 h2 h3
      have hmm:(if mx.isSome then m else cap)=m:=by simp_all
      rw[hmm] at hb
      refine⟨.slice none (hh - l) (m - l),?_,by simp only[aB]⟩
      simp only[Instr.sliceAt,Instr.slice,Sem.run_bind,run_underlying hd,Result.andThen_ok,hb,dJ hinf,Sem.run_pure,Option.map_none]
      simp
     ·cases hv
    ·cases hv
   ·cases hv
  ·cases hv
 ·
  rename_i e a len cap hd
  obtain⟨ab,ao,asp⟩:=a
  split at hv
  ·rename_i m h1
   split at hv
   ·rename_i hh h2
    split at hv
    ·rename_i l h3
     split at hv
     ·
      rename_i hs
      obtain⟨sp,rfl⟩:∃sp,asp=some sp:=by cases asp with|none=>simp at hs|some sp=>exact⟨sp,rfl⟩
      split at hv
      ·rename_i hc
       obtain⟨hinf,rfl,rfl⟩:=hc
       cases hv
       obtain⟨i,hinf⟩:=Option.isSome_iff_exists.1 hinf
       simp only[aB] at hx
       obtain⟨_,_,a',c',_,_,rfl⟩:=hx
       obtain⟨hb,hmc,hlh,hm⟩:=mD (P:=P) (w:=w) hlo hhi hmx true (Nat.zero_le c') h1 h2 h3
       obtain rfl:m=0:=by omega
       have hz:hh=0:=by
        cases hi_ with
        |none=>
         simp_all
        |some v=>
         simp at h2
         unfold iX at h2
         grind
       subst hz
       obtain rfl:l=0:=by omega
       cases hms:mx.isSome with
       |true=>
        refine⟨.slice (some a') 0 0,?_,?_⟩
        ·simp only[Instr.sliceAt,Instr.slice,Sem.run_bind,run_underlying hd,Result.andThen_ok,hb,dJ hinf,Sem.run_pure,Option.map_some,hms,if_true]
        ·simp only[if_true,lF,aB]
         grind
       |false=>
        refine⟨.slice (some (if c'=0 then a' else a'.add (0*P.cellsOf e))) 0 c',?_,?_⟩
        ·simp only[Instr.sliceAt,Instr.slice,Sem.run_bind,run_underlying hd,Result.andThen_ok,hb,dJ hinf,Sem.run_pure,Option.map_some,hms,Bool.false_eq_true,if_false,Nat.sub_zero]
         split<;>rfl
        ·simp only[Bool.false_eq_true,if_false,Xq,aB]
         grind
      ·cases hv
     ·rename_i hs
      have hs:asp=none:=by simp_all
      subst hs
      simp only[aB] at hx
      obtain⟨b,s,c',hr,hc1,hc2,rfl⟩:=hx
      split at hv
      ·rename_i hc
       obtain⟨i,hinf⟩:=Option.isSome_iff_exists.1 hc.1
       obtain⟨hb,hmc,hlh,hm⟩:=mD (P:=P) (w:=w) hlo hhi hmx true hc1 h1 h2 h3
       have hrun:(Instr.sliceAt t (.slice (some ⟨b,ao+s.2,none⟩) len c') lo' hi' mx').run P w=
         .ok (.slice (some (if(if mx.isSome then m else c')=l then⟨b,ao+s.2,none⟩ else⟨b,ao+s.2+l*P.cellsOf e,none⟩)) (hh - l) ((if mx.isSome then m else c') - l)) w:=by
        simp only[Instr.sliceAt,Instr.slice,Sem.run_bind,run_underlying hd,Result.andThen_ok,hb,dJ hinf,Sem.run_pure,Option.map_some,bG]
        grind
       refine⟨_,hrun,?_⟩
       split at hv
       ·rename_i hml
        subst hml
        obtain rfl:hh=m:=by omega
        split at hv
        ·rename_i hms
         cases hv
         simp only[hms,if_true,lF,aB]
         grind
        ·rename_i hms
         have hmn:mx=none:=by simp_all
         subst hmn
         have hm:=hm rfl
         subst hm
         split at hv
         ·rename_i hex
          cases hv
          unfold iS at hex
          split at hex
          ·rename_i c el fz x hg
           cases hex
           obtain⟨_,_,_,_,_,_,hx0⟩:=hi.nJ _ _ hg b s hr
           have hs0:s.1=0:=(hx0 rfl).1
           simp only[Option.isSome_none,Bool.false_eq_true,if_false,lF,aB]
           grind
          ·cases hex
         ·cases hv
          rw[bG]
          simp only[Option.isSome_none,Bool.false_eq_true,if_false,nW,aB]
          rw[Nat.sub_self]
          refine⟨trivial,trivial,_,c' - hh,fun hh=>absurd hh (by omega),fun _=>⟨b,s,hr,by omega,fun hpos=>?_⟩,rfl⟩
          grind
         ·cases hv
       ·rename_i hml
        cases hv
        cases mx with
        |none=>
         have hm:=hm rfl
         subst hm
         simp only[Option.isSome_none,Bool.false_eq_true,if_false]
         rw[if_neg (by omega),bG]
         simp only[aB]
         grind
        |some y=>
         simp only[Option.isSome_some,if_true]
         rw[bG,if_neg hml]
         simp only[aB]
         grind
      ·cases hv
    ·cases hv
   ·cases hv
  ·cases hv
 ·cases hv
end Go.Ab
end
section
namespace Go.Ab
open Go.RowKit
variable {P:Program} {B:Nat} {ρ:fN} {h:AH} {w:World}
theorem lY {d:Nat} {eq:TypeId→Value→Value→Option Bool} (heq:∀t x y x' y' r,aB ρ x x'→aB ρ y y'→eq t x y=some r→(Op.equalIn d t x' y').run P w= .ok r w)
  {xs ys xs' ys':List Value} (hx:aH ρ xs xs') (hy:aH ρ ys ys'):∀(fs:List Field) (r:Bool),iB P eq xs ys fs=some r→(Op.eqFields d ⟨xs'⟩ ⟨ys'⟩ fs).run P w= .ok r w
 |[],r,h=>by simp only[iB,Option.some.injEq] at h;subst h;simp[Op.eqFields]
 |f::fs,r,h=>by
  simp only[iB] at h
  split at h
  ·rename_i hn
   simp only[Op.eqFields,hn,ne_eq,not_true_eq_false,if_false]
   exact lY heq hx hy fs r h
  ·rename_i hn
   simp only[Op.eqFields,ne_eq,hn,not_false_eq_true,if_true,Sem.run_bind]
   split at h
   ·rename_i x y h1 h2
    obtain⟨x',hxr,hxv⟩:=nR (P:=P) (w:=w) h1 hx
    obtain⟨y',hyr,hyv⟩:=nR (P:=P) (w:=w) h2 hy
    simp only[hxr,hyr,Result.andThen_ok]
    split at h
    ·rename_i h3
     have:=heq _ _ _ _ _ _ hxv hyv h3
     simp only[this,Result.andThen_ok]
     simpa using lY heq hx hy fs r h
    ·rename_i h3
     cases h
     have:=heq _ _ _ _ _ _ hxv hyv h3
     simp[this]
    ·cases h
   ·cases h
theorem sW {d:Nat} {e:TypeId} {eq:TypeId→Value→Value→Option Bool} (heq:∀t x y x' y' r,aB ρ x x'→aB ρ y y'→eq t x y=some r→(Op.equalIn d t x' y').run P w= .ok r w)
  {xs ys xs' ys':List Value} (hx:aH ρ xs xs') (hy:aH ρ ys ys'):∀(is:List Nat) (r:Bool),kN P eq e xs ys is=some r→(Op.eqItems d e (P.cellsOf e) ⟨xs'⟩ ⟨ys'⟩ is).run P w= .ok r w
 |[],r,h=>by simp only[kN,Option.some.injEq] at h;subst h;simp[Op.eqItems]
 |i::is,r,h=>by
  simp only[kN] at h
  simp only[Op.eqItems,Sem.run_bind]
  split at h
  ·rename_i x y h1 h2
   obtain⟨x',hxr,hxv⟩:=nR (P:=P) (w:=w) h1 hx
   obtain⟨y',hyr,hyv⟩:=nR (P:=P) (w:=w) h2 hy
   simp only[hxr,hyr,Result.andThen_ok]
   split at h
   ·rename_i h3
    have:=heq _ _ _ _ _ _ hxv hyv h3
    simp only[this,Result.andThen_ok]
    simpa using sW heq hx hy is r h
   ·rename_i h3
    cases h
    have:=heq _ _ _ _ _ _ hxv hyv h3
    simp[this]
   ·cases h
  ·cases h
set_option maxHeartbeats 1000000 in
theorem Oa (d:Nat):∀(t:TypeId) (x y x' y':Value) (r:Bool),aB ρ x x'→aB ρ y y'→qM P d t x y=some r→(Op.equalIn d t x' y').run P w= .ok r w:=by
 induction d with
 |zero=>intro _ _ _ _ _ _ _ _ h;simp[qM] at h
 |succ d ih=>
  intro t x y x' y' r hx hy h
  unfold qM at h
  split at h
  ·rename_i hd;simp only[aB] at hx hy;subst hx;subst hy;cases h;simp[Op.equalIn,run_underlying hd]
  ·rename_i hd
   simp only[aB] at hx hy;subst hx;subst hy
   split at h
   ·rename_i hk;cases h;simp[Op.equalIn,run_underlying hd,hk]
   ·cases h
  ·rename_i hd;simp only[aB] at hx hy;subst hx;subst hy;cases h;simp[Op.equalIn,run_underlying hd]
  ·rename_i b hd
   simp only[aB] at hx;subst hx;cases h
   cases b with
   |none=>simp only[aB] at hy;subst hy;simp[Op.equalIn,run_underlying hd]
   |some b=>simp only[aB] at hy;obtain⟨_,_,_,rfl⟩:=hy;simp[Op.equalIn,run_underlying hd]
  ·rename_i hd
   simp only[aB] at hx hy;obtain⟨_,_,_,rfl⟩:=hx;subst hy;cases h;simp[Op.equalIn,run_underlying hd]
  ·rename_i hd;simp only[aB] at hx hy;subst hx;subst hy;cases h;simp[Op.equalIn,run_underlying hd]
  ·rename_i hd;simp only[aB] at hx hy;subst hx;obtain⟨_,_,rfl⟩:=hy;cases h;simp[Op.equalIn,run_underlying hd]
  ·rename_i hd;simp only[aB] at hx hy;obtain⟨_,_,rfl⟩:=hx;subst hy;cases h;simp[Op.equalIn,run_underlying hd]
  ·rename_i fs xs ys hd
   simp only[aB] at hx hy
   obtain⟨xs',hxs,rfl⟩:=hx
   obtain⟨ys',hys,rfl⟩:=hy
   split at h
   ·cases h
   ·rename_i hst
    have hf:P.fieldsOf t=fs:=by simp[Program.fieldsOf,hd]
    rw[run_equalIn_struct w d t xs' ys' (by rw[hf];exact hd) (by simpa using hst),hf]
    exact lY ih (fH.1 hxs) (fH.1 hys) _ _ h
  ·rename_i n e xs ys hd
   simp only[aB] at hx hy
   obtain⟨xs',hxs,rfl⟩:=hx
   obtain⟨ys',hys,rfl⟩:=hy
   split at h
   ·rename_i he
    obtain⟨i,hi⟩:=Option.isSome_iff_exists.1 he
    rw[run_equalIn_array w d xs' ys' hd hi]
    exact sW ih (fH.1 hxs) (fH.1 hys) _ _ h
   ·cases h
  ·rename_i b _ _ hd
   simp only[aB] at hx;subst hx;cases h
   cases b with
   |none=>simp only[aB] at hy;subst hy;simp[Op.equalIn,run_underlying hd]
   |some b=>
    obtain⟨_,_,sp⟩:=b
    cases sp with
    |none=>simp only[aB] at hy;obtain⟨_,_,_,_,_,_,rfl⟩:=hy;simp[Op.equalIn,run_underlying hd]
    |some _=>simp only[aB] at hy;obtain⟨_,_,_,_,_,_,rfl⟩:=hy;simp[Op.equalIn,run_underlying hd]
  ·rename_i a _ _ _ _ hd
   simp only[aB] at hy;subst hy;cases h
   obtain⟨_,_,sp⟩:=a
   cases sp with
   |none=>simp only[aB] at hx;obtain⟨_,_,_,_,_,_,rfl⟩:=hx;simp[Op.equalIn,run_underlying hd]
   |some _=>simp only[aB] at hx;obtain⟨_,_,_,_,_,_,rfl⟩:=hx;simp[Op.equalIn,run_underlying hd]
  ·rename_i b hd
   simp only[aB] at hx;subst hx;cases h
   cases b with
   |none=>simp only[aB] at hy;subst hy;simp[Op.equalIn,run_underlying hd]
   |some b=>simp only[aB] at hy;obtain⟨_,_,_,rfl⟩:=hy;simp[Op.equalIn,run_underlying hd]
  ·rename_i hd
   simp only[aB] at hx hy;obtain⟨_,_,_,rfl⟩:=hx;subst hy;cases h;simp[Op.equalIn,run_underlying hd]
  ·rename_i hd;simp only[aB] at hx hy;subst hx;subst hy;cases h;simp[Op.equalIn,run_underlying hd]
  ·rename_i hd;simp only[aB] at hx hy;subst hx;obtain⟨_,_,_,_,_,_,rfl⟩:=hy;cases h;simp[Op.equalIn,run_underlying hd]
  ·rename_i hd;simp only[aB] at hx hy;obtain⟨_,_,_,_,_,_,rfl⟩:=hx;subst hy;cases h;simp[Op.equalIn,run_underlying hd]
  ·cases h
end Go.Ab
end
section
namespace Go.Ab
open Go.RowKit
variable {P:Program} {B:Nat} {ρ:fN} {h:AH} {w:World}
theorem Da {op:BinOp} {t:TypeId} {x y:Operand} {a b a' b':Value} (ha:aB ρ a a') (hb:aB ρ b b') (h1:qA a=false) (h2:qA b=false) (hq:xL P t x y a b=true):
  (eqGuard op t x y a' b').run P w= .ok () w:=by
 cases a with
 |chan r=>simp[qA] at h1
 |nilIface=>
  simp only[aB] at ha;subst ha
  cases b with
  |chan r=>simp[qA] at h2
  |nilIface=>
   simp only[aB] at hb;subst hb
   simp only[xL,Bool.or_eq_true] at hq
   cases x with
   |const c=>rw[eqGuard_nil_constL];rfl
   |_=>
    cases y with
    |const c=>rw[eqGuard_nil_constR];rfl
    |_=>simp[isConst] at hq
  |iface u v=>simp only[aB] at hb;obtain⟨_,_,rfl⟩:=hb;rw[eqGuard_nil_iface];rfl
  |agg cs=>simp only[aB] at hb;obtain⟨_,_,rfl⟩:=hb;cases op<;>rfl
  |tuple cs=>simp only[aB] at hb;obtain⟨_,_,rfl⟩:=hb;cases op<;>rfl
  |func fn f c=>simp only[aB] at hb;obtain⟨_,_,_,_,_,_,rfl⟩:=hb;cases op<;>rfl
  |pointer a=>cases a with
   |none=>simp only[aB] at hb;subst hb;cases op<;>rfl
   |some a=>simp only[aB] at hb;obtain⟨_,_,_,rfl⟩:=hb;cases op<;>rfl
  |map a=>cases a with
   |none=>simp only[aB] at hb;subst hb;cases op<;>rfl
   |some a=>simp only[aB] at hb;obtain⟨_,_,_,rfl⟩:=hb;cases op<;>rfl
  |slice a _ _=>cases a with
   |none=>simp only[aB] at hb;subst hb;cases op<;>rfl
   |some a=>
    obtain⟨_,_,sp⟩:=a
    cases sp with
    |none=>simp only[aB] at hb;obtain⟨_,_,_,_,_,_,rfl⟩:=hb;cases op<;>rfl
    |some _=>simp only[aB] at hb;obtain⟨_,_,_,_,_,_,rfl⟩:=hb;cases op<;>rfl
  |_=>simp only[aB] at hb;subst hb;cases op<;>rfl
 |iface u v=>simp only[aB] at ha;obtain⟨_,_,rfl⟩:=ha;rw[eqGuard_at_iface];rfl
 |tuple cs=>simp only[aB] at ha;obtain⟨_,_,rfl⟩:=ha;rw[eqGuard_at_tuple];rfl
 |func fn f c=>simp only[aB] at ha;obtain⟨_,_,_,_,_,_,rfl⟩:=ha;rw[eqGuard_at_func];rfl
 |pointer a=>cases a with
  |none=>simp only[aB] at ha;subst ha;rw[eqGuard_at_pointer];rfl
  |some a=>simp only[aB] at ha;obtain⟨_,_,_,rfl⟩:=ha;rw[eqGuard_at_pointer];rfl
 |map a=>cases a with
  |none=>simp only[aB] at ha;subst ha;rw[eqGuard_at_map];rfl
  |some a=>simp only[aB] at ha;obtain⟨_,_,_,rfl⟩:=ha;rw[eqGuard_at_map];rfl
 |slice a _ _=>cases a with
  |none=>simp only[aB] at ha;subst ha;rw[eqGuard_at_slice];rfl
  |some a=>
   obtain⟨_,_,sp⟩:=a
   cases sp with
   |none=>simp only[aB] at ha;obtain⟨_,_,_,_,_,_,rfl⟩:=ha;rw[eqGuard_at_slice];rfl
   |some _=>simp only[aB] at ha;obtain⟨_,_,_,_,_,_,rfl⟩:=ha;rw[eqGuard_at_slice];rfl
 |bool _=>simp only[aB] at ha;subst ha;rw[eqGuard_at_bool];rfl
 |int _ _=>simp only[aB] at ha;subst ha;rw[eqGuard_at_int];rfl
 |float _ _=>simp only[aB] at ha;subst ha;rw[eqGuard_at_float];rfl
 |complex _ _ _=>simp only[aB] at ha;subst ha;rw[eqGuard_at_complex];rfl
 |string _=>simp only[aB] at ha;subst ha;rw[eqGuard_at_string];rfl
 |nilFunc=>simp only[aB] at ha;subst ha;rw[eqGuard_at_nilFunc];rfl
 |agg cs=>
  simp only[aB] at ha;obtain⟨cs',_,rfl⟩:=ha
  cases b with
  |agg ds=>
   simp only[aB] at hb;obtain⟨ds',_,rfl⟩:=hb
   simp only[xL,Bool.not_eq_true'] at hq
   exact run_eqGuard_agg w op t x y cs' ds' hq
  |chan r=>simp[qA] at h2
  |iface u v=>simp only[aB] at hb;obtain⟨_,_,rfl⟩:=hb;cases op<;>rfl
  |tuple cs=>simp only[aB] at hb;obtain⟨_,_,rfl⟩:=hb;cases op<;>rfl
  |func fn f c=>simp only[aB] at hb;obtain⟨_,_,_,_,_,_,rfl⟩:=hb;cases op<;>rfl
  |pointer a=>cases a with
   |none=>simp only[aB] at hb;subst hb;cases op<;>rfl
   |some a=>simp only[aB] at hb;obtain⟨_,_,_,rfl⟩:=hb;cases op<;>rfl
  |map a=>cases a with
   |none=>simp only[aB] at hb;subst hb;cases op<;>rfl
   |some a=>simp only[aB] at hb;obtain⟨_,_,_,rfl⟩:=hb;cases op<;>rfl
  |slice a _ _=>cases a with
   |none=>simp only[aB] at hb;subst hb;cases op<;>rfl
   |some a=>
    obtain⟨_,_,sp⟩:=a
    cases sp with
    |none=>simp only[aB] at hb;obtain⟨_,_,_,_,_,_,rfl⟩:=hb;cases op<;>rfl
    |some _=>simp only[aB] at hb;obtain⟨_,_,_,_,_,_,rfl⟩:=hb;cases op<;>rfl
  |_=>simp only[aB] at hb;subst hb;cases op<;>rfl
theorem tV {d:Nat} {t:TypeId} {x y:Value} {r:Bool} (h:qM P d t x y=some r):qA x=false∧qA y=false:=by
 cases d with
 |zero=>simp[qM] at h
 |succ d=>unfold qM at h;split at h<;>first|exact⟨rfl,rfl⟩|cases h
theorem tK {op:BinOp} {k k':IntKind} {t:TypeId} {m n:Int} {v:Value} (hv:xI op k m n=some v):(binOp op t (.int k m) (.int k' n)).run P w= .ok v w∧∀ρ:fN,aB ρ v v:=by
 unfold xI at hv
 split at hv
 ·cases hv
 ·rename_i hn
  split at hv
  ·cases hv;exact⟨by simp[binOp,Op.shift,hn],fun ρ=>by simp only[aB]⟩
  ·cases hv;exact⟨by simp[binOp,Op.shift,hn],fun ρ=>by simp only[aB]⟩
  ·cases hv
theorem P7 {op:BinOp} {k:IntKind} {t:TypeId} {m n:Int} {v:Value} (hv:yJ op k m n=some v):(binOp op t (.int k m) (.int k n)).run P w= .ok v w∧∀ρ:fN,aB ρ v v:=by
 cases op<;>simp only[yJ,ae,Option.map_some,Option.some.injEq] at hv<;>try cases hv
 case shl=>exact tK hv
 case shr=>exact tK hv
 case and=>exact⟨by simp[binOp,Op.intBits],fun ρ=>by simp only[aB]⟩
 case or=>exact⟨by simp[binOp,Op.intBits],fun ρ=>by simp only[aB]⟩
 case xor=>exact⟨by simp[binOp,Op.intBits],fun ρ=>by simp only[aB]⟩
 case andNot=>exact⟨by simp[binOp,Op.intBits],fun ρ=>by simp only[aB]⟩
 case add=>exact⟨by rw[binOp_add];rfl,fun ρ=>by simp only[aB]⟩
 case sub=>exact⟨by rw[binOp_sub];rfl,fun ρ=>by simp only[aB]⟩
 case mul=>exact⟨by rw[binOp_mul];rfl,fun ρ=>by simp only[aB]⟩
 case quo=>
  split at hv
  ·cases hv
  ·rename_i h;cases hv;exact⟨by rw[binOp_quo];simp[Op.intDiv,h],fun ρ=>by simp only[aB]⟩
 case rem=>
  split at hv
  ·cases hv
  ·rename_i h;cases hv;exact⟨by rw[binOp_rem];simp[Op.intDiv,h],fun ρ=>by simp only[aB]⟩
 case eql=>exact⟨by rw[binOp_eql];rfl,fun ρ=>by simp only[aB]⟩
 case neq=>exact⟨by rw[binOp_neq];rfl,fun ρ=>by simp only[aB]⟩
 case lss=>exact⟨by rw[binOp_lss];rfl,fun ρ=>by simp only[aB]⟩
 case leq=>exact⟨by rw[binOp_leq];rfl,fun ρ=>by simp only[aB]⟩
 case gtr=>exact⟨by rw[binOp_gtr];rfl,fun ρ=>by simp only[aB]⟩
 case geq=>exact⟨by rw[binOp_geq];rfl,fun ρ=>by simp only[aB]⟩
theorem Qd {op:BinOp} {t:TypeId} {m n:ByteArray} {v:Value} (hv:Uf op m n=some v):(binOp op t (.string m) (.string n)).run P w= .ok v w∧∀ρ:fN,aB ρ v v:=by
 cases op<;>simp only[Uf,Option.some.injEq] at hv<;>try cases hv
 case add=>
  split at hv
  ·rename_i h
   cases hv
   refine⟨?_,fun ρ=>by simp only[aB]⟩
   have:¬(((m.size+n.size:Nat):Int)>IntKind.i64.max):=by rw[IntKind.max_i64];omega
   simp only[binOp,Op.stringOp]
   rw[if_neg this];rfl
  ·cases hv
 case eql=>exact⟨by simp[binOp,Op.stringOp],fun ρ=>by simp only[aB]⟩
 case neq=>exact⟨by simp[binOp,Op.stringOp],fun ρ=>by simp only[aB]⟩
 case lss=>exact⟨by simp[binOp,Op.stringOp],fun ρ=>by simp only[aB]⟩
theorem sR {t:TypeId} {a b a' b':Value} {r:Bool} (ha:aB ρ a a') (hb:aB ρ b b') (hq:qM P 10000 t a b=some r) (hni:∀k m k' n,¬(a= .int k m∧b= .int k' n)) (hns:∀m n,¬(a= .string m∧b= .string n)):
  (binOp .eql t a' b').run P w= .ok (.bool r) w∧(binOp .neq t a' b').run P w= .ok (.bool !r) w:=by
 have he:(Op.equal t a' b').run P w= .ok r w:=Oa 10000 t a b a' b' r ha hb hq
 obtain⟨h1,h2⟩:=tV hq
 have key:∀op,(op=BinOp.eql∨op=BinOp.neq)→binOp op t a' b'=(if op= .eql then(do pure (.bool (←Op.equal t a' b')):Sem Value) else do pure (.bool (!(←Op.equal t a' b')))):=by
  intro op hop
  cases a with
  |chan r=>simp[qA] at h1
  |int k m=>
   simp only[aB] at ha;subst ha
   cases b with
   |int k' n=>grind
   |_=>
    unfold qM at hq
    grind
  |string m=>
   simp only[aB] at ha;subst ha
   cases b with
   |string n=>grind
   |_=>
    unfold qM at hq
    grind
  |float k m=>unfold qM at hq;grind
  |complex k m n=>unfold qM at hq;grind
  |tuple cs=>unfold qM at hq;grind
  |bool c=>simp only[aB] at ha;subst ha;rcases hop with rfl|rfl<;>simp[binOp]
  |nilFunc=>simp only[aB] at ha;subst ha;rcases hop with rfl|rfl<;>simp[binOp]
  |nilIface=>simp only[aB] at ha;subst ha;rcases hop with rfl|rfl<;>simp[binOp]
  |iface u v=>simp only[aB] at ha;obtain⟨_,_,rfl⟩:=ha;rcases hop with rfl|rfl<;>simp[binOp]
  |func fn f c=>simp only[aB] at ha;obtain⟨_,_,_,_,_,_,rfl⟩:=ha;rcases hop with rfl|rfl<;>simp[binOp]
  |agg cs=>simp only[aB] at ha;obtain⟨_,_,rfl⟩:=ha;rcases hop with rfl|rfl<;>simp[binOp]
  |pointer a=>cases a with
   |none=>simp only[aB] at ha;subst ha;rcases hop with rfl|rfl<;>simp[binOp]
   |some a=>simp only[aB] at ha;obtain⟨_,_,_,rfl⟩:=ha;rcases hop with rfl|rfl<;>simp[binOp]
  |map a=>cases a with
   |none=>simp only[aB] at ha;subst ha;rcases hop with rfl|rfl<;>simp[binOp]
   |some a=>simp only[aB] at ha;obtain⟨_,_,_,rfl⟩:=ha;rcases hop with rfl|rfl<;>simp[binOp]
  |slice a _ _=>cases a with
   |none=>simp only[aB] at ha;subst ha;rcases hop with rfl|rfl<;>simp[binOp]
   |some a=>
    obtain⟨_,_,sp⟩:=a
    cases sp with
    |none=>simp only[aB] at ha;obtain⟨_,_,_,_,_,_,rfl⟩:=ha;rcases hop with rfl|rfl<;>simp[binOp]
    |some _=>simp only[aB] at ha;obtain⟨_,_,_,_,_,_,rfl⟩:=ha;rcases hop with rfl|rfl<;>simp[binOp]
 simp_all
theorem Ox {op:BinOp} {t:TypeId} {x y:Operand} {a b a' b' v:Value} (ha:aB ρ a a') (hb:aB ρ b b') (hv:El P op t x y a b=some v):
  ∃v',(do eqGuard op t x y a' b';binOp op t a' b':Sem Value).run P w= .ok v' w∧aB ρ v v':=by
 unfold El at hv
 split at hv
 ·rename_i k m k' n
  simp only[aB] at ha hb;subst ha;subst hb
  split at hv
  ·rename_i hk;subst hk
   obtain⟨h1,h2⟩:=P7 (P:=P) (w:=w) (t:=t) hv
   exact⟨v,by simp only[Sem.run_bind,eqGuard_at_int,Sem.run_pure,Result.andThen_ok,h1],h2 ρ⟩
  ·obtain⟨h1,h2⟩:=tK (P:=P) (w:=w) (t:=t) (k':=k') hv
   exact⟨v,by simp only[Sem.run_bind,eqGuard_at_int,Sem.run_pure,Result.andThen_ok,h1],h2 ρ⟩
 ·rename_i m n
  simp only[aB] at ha hb;subst ha;subst hb
  obtain⟨h1,h2⟩:=Qd (P:=P) (w:=w) (t:=t) hv
  exact⟨v,by simp only[Sem.run_bind,eqGuard_at_string,Sem.run_pure,Result.andThen_ok,h1],h2 ρ⟩
 ·rename_i hni hns
  have hni':∀k m k' n,¬(a= .int k m∧b= .int k' n):=fun k m k' n hh=>hni k m k' n hh.1 hh.2
  have hns':∀m n,¬(a= .string m∧b= .string n):=fun m n hh=>hns m n hh.1 hh.2
  split at hv
  ·split at hv
   ·rename_i hq
    simp only[Option.map_eq_some_iff] at hv
    obtain⟨r,hr,rfl⟩:=hv
    obtain⟨h1,h2⟩:=tV hr
    refine⟨.bool r,?_,by simp only[aB]⟩
    simp only[Sem.run_bind,Da ha hb h1 h2 hq,Result.andThen_ok,(sR ha hb hr hni' hns').1]
   ·cases hv
  ·split at hv
   ·rename_i hq
    simp only[Option.map_eq_some_iff] at hv
    obtain⟨r,hr,rfl⟩:=hv
    obtain⟨h1,h2⟩:=tV hr
    refine⟨.bool !r,?_,by simp only[aB]⟩
    simp only[Sem.run_bind,Da ha hb h1 h2 hq,Result.andThen_ok,(sR ha hb hr hni' hns').2]
   ·cases hv
  ·cases hv
end Go.Ab
end
section
namespace Go.Ab
open Go.RowKit
variable {P:Program} {B:Nat} {ρ:fN} {h:AH} {w:World}
theorem tH {r:Nat} {o:Obj} (ho:w.heap[r]?=some o) (hc:∀c e f,o≠.cells c e f):(getObj r).run P w= .ok o w:=by
 simp only[getObj,Sem.run,ho]
theorem mK {r:Nat} {o o':Obj} (ho:w.heap[r]?=some o) (hc:∀c e f,o≠.cells c e f):(setObj r o').run P w= .ok () {w with heap:=w.heap.setIfInBounds r o'}:=by
 simp only[setObj,Sem.run,ho]
theorem kD {r:Nat} {es:Array MapEntry} {c:Nat} (ho:w.heap[r]?=some (.map es c)):(getObj r).run P w= .ok (.map es c) w:=
 tH ho fun _ _ _ hh=>by cases hh
theorem pB {r:Nat} {es:Array MapEntry} {c:Nat} {o':Obj} (ho:w.heap[r]?=some (.map es c)):(setObj r o').run P w= .ok () {w with heap:=w.heap.setIfInBounds r o'}:=
 mK ho fun _ _ _ hh=>by cases hh
theorem yZ {t e:TypeId} (h:wI P t=some e):∃key k,P.underlying t=some (.map key e)∧P.underlying key=some (.int k):=by
 unfold wI at h
 grind
def Hd (ρ:fN):Option (Nat×Value)→Option (Nat×Value)→Prop
 |none,y=>y=none
 |some (i,v),y=>∃v',aB ρ v v'∧y=some (i,v')
theorem wY {kk k:IntKind} {n:Int}:∀(es:List (Value×Value×Nat)) (es':List MapEntry) (i:Nat) (r:Option (Nat×Value)),gZ ρ es es'→rI k n es i=some r→
  ∃r',Instr.findNow (.int kk) (.int k n) es' i=some r'∧Hd ρ r r'
 |[],es',i,r,he,hf=>by
  simp only[gZ] at he;subst he
  simp only[rI,Option.some.injEq] at hf;subst hf
  exact⟨none,rfl,rfl⟩
 |(key,v,b)::es,es',i,r,he,hf=>by
  obtain⟨k',v',t,h1,h2,h3,rfl⟩:=he
  cases key with
  |int j m=>
   simp only[aB] at h1;subst h1
   simp only[rI] at hf
   split at hf
   ·rename_i hk
    subst hk
    split at hf
    ·rename_i hn
     simp only[Option.some.injEq] at hf;subst hf
     refine⟨some (i,v'),?_,v',h2,rfl⟩
     simp[Instr.findNow,Instr.sameNow,hn]
    ·rename_i hn
     obtain⟨r',hr,hrel⟩:=wY (kk:=kk) es t (i+1) r h3 hf
     refine⟨r',?_,hrel⟩
     have:(n==m)=false:=by simpa using hn
     simp[Instr.findNow,Instr.sameNow,this,hr]
   ·cases hf
  |_=>simp[rI] at hf
theorem iY {kt:TypeId} {kk k:IntKind} {n:Int} (hk:P.underlying kt=some (.int kk)) {es:List (Value×Value×Nat)} {es':List MapEntry} {r:Option (Nat×Value)} (he:gZ ρ es es') (hf:rI k n es 0=some r):
  ∃r',(Instr.findKey kt (.int k n) es').run P w= .ok r' w∧Hd ρ r r':=by
 obtain⟨r',hr,hrel⟩:=wY (kk:=kk) es es' 0 r he hf
 refine⟨r',?_,hrel⟩
 simp only[Instr.findKey,Sem.run_bind,run_underlying hk,Result.andThen_ok,hr,Sem.run_pure]
theorem gJ {kt:TypeId} {kk k:IntKind} {n:Int} (hk:P.underlying kt=some (.int kk)) (e:Bool):(Instr.checkKey e 10000 kt (.int k n)).run P w= .ok () w:=by
 show(Instr.checkKey e (9999+1) kt (.int k n)).run P w= .ok () w
 rw[Instr.checkKey,Sem.run_bind,run_underlying hk]
 rfl
theorem Of {t:TypeId} {z:Value} (hz:zeroV P t=some z):(zeroValue t).run P w= .ok z w∧aB ρ z z:=by
 unfold zeroV at hz
 cases hi:P.info? t with
 |none=>simp[hi] at hz
 |some i=>
  cases hz0:i.zero with
  |none=>simp[hi,hz0] at hz
  |some z0=>
   simp only[hi,hz0,Option.bind_some] at hz
   split at hz
   ·rename_i hp
    cases hz
    exact⟨by simp[zeroValue,typeInfo,hi,hz0],eI _ hp⟩
   ·cases hz
theorem Lt (hi:Inv P B ρ h w) {x x':Value} {es:List (Value×Value×Nat)} (hx:aB ρ x x') (hm:Pa h x=some es):
  ∃es',gZ ρ es es'∧((x'= .map none∧es'=[])∨∃r c,x'= .map (some r)∧w.heap[r]?=some (.map ⟨es'⟩ c)):=by
 unfold Pa at hm
 split at hm
 ·cases hm
  simp only[aB] at hx
  exact⟨[],rfl,.inl ⟨hx,rfl⟩⟩
 ·rename_i r
  split at hm
  ·rename_i es0 c hg
   cases hm
   simp only[aB] at hx
   obtain⟨b,s,hb,rfl⟩:=hx
   obtain⟨o',ho,es',hr,rfl⟩:=hi.nJ _ _ hg b s hb
   grind
  ·cases hm
 ·cases hm
theorem Jz (hi:Inv P B ρ h w) {t:TypeId} {x x' ix ix' v:Value} {ok:Bool} (hx:aB ρ x x') (hix:aB ρ ix ix') (hv:mQ P h t x ix ok=some v):
  ∃v',(Instr.lookup t x' ix' ok).run P w= .ok v' w∧aB ρ v v':=by
 unfold mQ at hv
 split at hv
 ·rename_i e es k n hk hm
  obtain⟨key,kk,ht,hkt⟩:=yZ hk
  obtain⟨es',he,hx'⟩:=Lt hi hx hm
  simp only[aB] at hix;subst hix
  have fin:∀(r:Option (Nat×Value)) (r':Option (Nat×Value)),(Instr.findKey key (.int k n) es').run P w= .ok r' w→
    (Instr.lookup t x' (.int k n) ok).run P w=(match r' with
     |some (_,v)=>(.ok (if ok then .tuple #[v,.bool true] else v) w:Result Value)
     |none=>((zeroValue e).run P w).andThen fun z w=> .ok (if ok then .tuple #[z,.bool false] else z) w):=by
   intro r r' hf
   rcases hx' with⟨rfl,rfl⟩|⟨r,c,rfl,ho⟩
   ·unfold Instr.lookup
    simp only[Sem.run_bind,run_underlying ht,Result.andThen_ok,gJ hkt,hf,Sem.run_pure]
    cases r' with
    |some p=>rfl
    |none=>simp_all
   ·unfold Instr.lookup
    simp only[Sem.run_bind,run_underlying ht,Result.andThen_ok,kD ho,gJ hkt,hf,Sem.run_pure]
    cases r' with
    |some p=>rfl
    |none=>simp_all
  split at hv
  ·rename_i i v0 hf
   simp only[Option.some.injEq] at hv
   obtain⟨r',hr,v',hv',rfl⟩:=iY (w:=w) hkt he hf
   refine⟨_,fin none _ hr,?_⟩
   subst hv
   cases ok
   ·exact hv'
   ·show aB ρ (.tuple ⟨[v0,.bool true]⟩) (.tuple ⟨[v',.bool true]⟩)
    simp only[aB]
    exact⟨_,by simp only[iC];exact aH.cons hv' (aH.cons (by simp only[aB]) aH.nil),rfl⟩
  ·rename_i hf
   simp only[Option.map_eq_some_iff] at hv
   obtain⟨z,hz,hv⟩:=hv
   obtain⟨r',hr,hr'⟩:=iY (w:=w) hkt he hf
   simp only[Hd] at hr';subst hr'
   obtain⟨hzr,hzz⟩:=Of (w:=w) (ρ:=ρ) hz
   refine⟨_,by rw[fin none _ hr,hzr];rfl,?_⟩
   subst hv
   cases ok
   ·exact hzz
   ·show aB ρ (.tuple ⟨[z,.bool false]⟩) (.tuple ⟨[z,.bool false]⟩)
    simp only[aB]
    exact⟨_,by simp only[iC];exact aH.cons hzz (aH.cons (by simp only[aB]) aH.nil),rfl⟩
  ·cases hv
 ·cases hv
theorem gZ.length:∀{es:List (Value×Value×Nat)} {es':List MapEntry},gZ ρ es es'→es.length=es'.length
 |[],_,he=>by simp only[gZ] at he;subst he;rfl
 |(_,_,_)::es,_,⟨_,_,t,_,_,h3,rfl⟩=>by simp[gZ.length h3]
theorem gZ.snoc:∀{es:List (Value×Value×Nat)} {es':List MapEntry} {k k' v v':Value} {c:Nat},gZ ρ es es'→aB ρ k k'→aB ρ v v'→
  gZ ρ (es++[(k,v,c)]) (es'++[{key:=k',val:=v',born:=c}])
 |[],_,k,k',v,v',c,he,hk,hv=>by simp only[gZ] at he;subst he;exact⟨k',v',[],hk,hv,rfl,rfl⟩
 |(_,_,_)::es,_,k,k',v,v',c,⟨k1,v1,t,h1,h2,h3,rfl⟩,hk,hv=>⟨k1,v1,_,h1,h2,gZ.snoc h3 hk hv,rfl⟩
theorem gZ.erase:∀{es:List (Value×Value×Nat)} {es':List MapEntry} (i:Nat),gZ ρ es es'→gZ ρ (es.eraseIdx i) (es'.eraseIdx i)
 |[],_,i,he=>by simp only[gZ] at he;subst he;simp[gZ]
 |(_,_,_)::es,_,0,⟨_,_,t,h1,h2,h3,rfl⟩=>h3
 |(_,_,_)::es,_,i+1,⟨k1,v1,t,h1,h2,h3,rfl⟩=>⟨k1,v1,_,h1,h2,gZ.erase i h3,rfl⟩
theorem gZ.mod:∀{es:List (Value×Value×Nat)} {es':List MapEntry} (i:Nat) {k k' v v':Value},gZ ρ es es'→aB ρ k k'→aB ρ v v'→
  gZ ρ (es.modify i fun e=>(k,v,e.2.2)) (es'.modify i fun e=>{e with key:=k',val:=v'})
 |[],_,i,k,k',v,v',he,_,_=>by simp only[gZ] at he;subst he;simp[gZ]
 |(_,_,_)::es,_,0,k,k',v,v',⟨_,_,t,h1,h2,h3,rfl⟩,hk,hv=>⟨k',v',t,hk,hv,h3,rfl⟩
 |(_,_,_)::es,_,i+1,k,k',v,v',⟨k1,v1,t,h1,h2,h3,rfl⟩,hk,hv=>⟨k1,v1,_,h1,h2,gZ.mod i h3 hk hv,rfl⟩
theorem yB {kk k:IntKind} {n:Int}:∀(es':List MapEntry) (i:Nat) {j:Nat} {v:Value},Instr.findNow (.int kk) (.int k n) es' i=some (some (j,v))→i≤j∧∃e,es'[j - i]?=some e∧e.key= .int k n
 |[],i,j,v,h=>by simp[Instr.findNow] at h
 |e::es,i,j,v,h=>by
  simp only[Instr.findNow] at h
  split at h
  ·rename_i hs
   simp only[Option.some.injEq,Prod.mk.injEq] at h
   obtain⟨rfl,rfl⟩:=h
   refine⟨Nat.le_refl _,e,by simp,?_⟩
   cases hk:e.key with
   |int j m=>
    rw[hk] at hs
    simp only[Instr.sameNow] at hs
    grind
   |_=>rw[hk] at hs;simp[Instr.sameNow] at hs
  ·obtain⟨h1,e',h2,h3⟩:=yB es (i+1) h
   grind
  ·cases h
theorem Ad (hi:Inv P B ρ h w) {argTypes:Array TypeId} {ty t k e:TypeId} {x x':Value} {es:List (Value×Value×Nat)} (h0:argTypes[0]?=some t) (hd:P.underlying t=some (.map k e)) (hx:aB ρ x x') (hm:Pa h x=some es):
  (Builtin.len_ argTypes ty #[x']).run P w= .ok (goInt es.length) w:=by
 obtain⟨es',he,⟨rfl,rfl⟩|⟨r,c,rfl,ho⟩⟩:=Lt hi hx hm
 ·have:=he.length
  simp[Builtin.len_,h0,run_underlying hd,this]
 ·have:=he.length
  simp[Builtin.len_,h0,run_underlying hd,kD ho,this]
theorem J6 (hi:Inv P B ρ h w) {t:TypeId} {m m' k k' x x':Value} {h2:AH} (hm:aB ρ m m') (hk:aB ρ k k') (hx:aB ρ x x') (hv:sA P h t m k x=some h2):
  ∃w',(Instr.mapUpdate t m' k' x').run P w= .ok () w'∧hQ P B ρ h w ρ h2 w':=by
 unfold sA at hv
 split at hv
 ·rename_i e r kd n hkey
  obtain⟨key,kk,ht,hkt⟩:=yZ hkey
  split at hv
  ·cases hv
  ·rename_i hbase
   split at hv
   ·rename_i es clock hg
    simp only[Option.map_eq_some_iff] at hv
    obtain⟨o,ho,rfl⟩:=hv
    simp only[aB] at hm hk
    subst hk
    obtain⟨b,s,hb,rfl⟩:=hm
    obtain⟨o',ho',es',he,rfl⟩:=hi.nJ _ _ hg b s hb
    unfold Y5 at ho
    split at ho
    ·rename_i i v0 hf
     simp only[Option.some.injEq] at ho;subst ho
     obtain⟨r',hr,v',_,rfl⟩:=iY (w:=w) hkt he hf
     obtain⟨r2,hr2,v2,_,rfl⟩:=wY (kk:=kk) es es' 0 _ he hf
     obtain⟨_,e',he',hek⟩:=yB es' 0 hr2
     simp only[Nat.sub_zero] at he'
     have hstay:(Instr.keyThatStays (.int kd n) (.int kd n)).run P w= .ok (.int kd n) w:=by
      simp[Instr.keyThatStays,Instr.sameBits]
     refine⟨{w with heap:=w.heap.setIfInBounds b (.map ((⟨es'⟩:Array MapEntry).modify i fun e=>{e with key:= .int kd n,val:=x'}) clock)},?_,?_⟩
     ·unfold Instr.mapUpdate
      simp only[Sem.run_bind,run_underlying ht,Result.andThen_ok,kD ho',gJ hkt,hr]
      rw[show((⟨es'⟩:Array MapEntry)[i]?).map (·.key)=some (.int kd n) by grind]
      simp only[Option.getD_some,hstay,Result.andThen_ok,pB ho']
     ·refine pZ hi (by omega) hg hb ?_ rfl rfl rfl rfl
      refine⟨_,gZ.mod i he (k':= .int kd n) (v':=x') (by simp only[aB]) hx,?_⟩
      grind
    ·rename_i hf
     simp only[Option.some.injEq] at ho;subst ho
     obtain⟨r',hr,hr'⟩:=iY (w:=w) hkt he hf
     simp only[Hd] at hr';subst hr'
     refine⟨{w with heap:=w.heap.setIfInBounds b (.map ((⟨es'⟩:Array MapEntry).push {key:= .int kd n,val:=x',born:=clock}) (clock+1))},?_,?_⟩
     ·unfold Instr.mapUpdate
      simp only[Sem.run_bind,run_underlying ht,Result.andThen_ok,kD ho',gJ hkt,hr,pB ho']
     ·refine pZ hi (by omega) hg hb ?_ rfl rfl rfl rfl
      refine⟨_,gZ.snoc he (k':= .int kd n) (v':=x') (by simp only[aB]) hx,?_⟩
      simp
    ·cases ho
   ·cases hv
 ·cases hv
theorem J3 (hi:Inv P B ρ h w) {argTypes:Array TypeId} {ty t:TypeId} {m m' k k':Value} {h2:AH} (h0:argTypes[0]?=some t) (hm:aB ρ m m') (hk:aB ρ k k') (hv:uC P h t m k=some h2):
  ∃w',(Builtin.delete_ argTypes ty ⟨[m',k']⟩).run P w= .ok (.tuple #[]) w'∧hQ P B ρ h w ρ h2 w':=by
 unfold uC at hv
 split at hv
 ·rename_i e kd n hkey
  obtain⟨key,kk,ht,hkt⟩:=yZ hkey
  cases hv
  simp only[aB] at hm hk
  subst hm hk
  exact⟨w,by simp[Builtin.delete_,h0,run_underlying ht,gJ hkt],hQ.refl hi⟩
 ·rename_i e r kd n hkey
  obtain⟨key,kk,ht,hkt⟩:=yZ hkey
  split at hv
  ·cases hv
  ·rename_i hbase
   split at hv
   ·rename_i es clock hg
    simp only[aB] at hm hk
    subst hk
    obtain⟨b,s,hb,rfl⟩:=hm
    obtain⟨o',ho',es',he,rfl⟩:=hi.nJ _ _ hg b s hb
    split at hv
    ·rename_i i v0 hf
     simp only[Option.some.injEq] at hv;subst hv
     obtain⟨r',hr,v',_,rfl⟩:=iY (w:=w) hkt he hf
     refine⟨{w with heap:=w.heap.setIfInBounds b (.map ((⟨es'⟩:Array MapEntry).eraseIdxIfInBounds i) clock)},?_,?_⟩
     ·simp[Builtin.delete_,h0,run_underlying ht,gJ hkt,kD ho',hr,pB ho']
     ·refine pZ hi (by omega) hg hb ?_ rfl rfl rfl rfl
      refine⟨_,gZ.erase i he,?_⟩
      grind
    ·rename_i hf
     simp only[Option.some.injEq] at hv;subst hv
     obtain⟨r',hr,hr'⟩:=iY (w:=w) hkt he hf
     simp only[Hd] at hr';subst hr'
     refine⟨{w with heap:=w.heap.setIfInBounds b (.map ⟨es'⟩ clock)},?_,?_⟩
     ·simp[Builtin.delete_,h0,run_underlying ht,gJ hkt,kD ho',hr,pB ho']
     ·exact pZ hi (by omega) hg hb ⟨_,he,rfl⟩ rfl rfl rfl rfl
    ·cases hv
   ·cases hv
 ·cases hv
end Go.Ab
end
section
namespace Go.Ab
open Go.RowKit
variable {P:Program} {B:Nat} {ρ:fN} {h:AH} {w:World}
theorem iC.map {α:Type} {f g:α→Value} (hfg:∀x,aB ρ (f x) (g x)) (a:Array α):iC ρ (a.map f) (a.map g):=by
 rw[fH];simp only[Array.toList_map];exact aH.tO hfg _
theorem G5 {x x' v:Value} (hx:aB ρ x x') (hv:strOf h x=some v):∃a n c,x'= .slice a n c:=by
 unfold strOf at hv
 split at hv
 ·simp only[aB] at hx;grind
 ·rename_i a n c
  obtain⟨_,_,sp⟩:=a
  cases sp with
  |none=>simp only[aB] at hx;grind
  |some _=>simp only[aB] at hx;grind
 ·cases hv
theorem Ah {f:Value→ByteArray→Sem (ForInStep ByteArray)} (hf:∀n s,f (.int .u8 n) s=pure (.yield (s.push (UInt8.ofNat n.toNat)))):∀(l l':List Value) (bs:List UInt8) (s:ByteArray),aH ρ l l'→qP l=some bs→
  (forIn (m:=Sem) l' s f).run P w= .ok ⟨⟨s.data.toList++bs⟩⟩ w
 |[],l',bs,s,hl,hb=>by
  simp only[aH] at hl;subst hl
  simp only[qP,Option.some.injEq] at hb;subst hb
  simp
 |v::l,l',bs,s,hl,hb=>by
  simp only[aH] at hl
  obtain⟨v',t',h1,h2,rfl⟩:=hl
  simp only[qP] at hb
  split at hb
  ·rename_i b r hb1 hb2
   cases hb
   unfold byteOf at hb1
   split at hb1
   ·cases hb1
    simp only[aB] at h1;subst h1
    simp only[List.forIn_cons,Sem.run_bind,hf,Sem.run_pure,Result.andThen_ok]
    rw[Ah hf l t' r _ h2 hb2]
    simp
   ·cases hb1
  ·cases hb
theorem Ol (hi:Inv P B ρ h w) {x x' v:Value} (hx:aB ρ x x') (hv:strOf h x=some v):∃v',(Conv.bytesToString x').run P w= .ok v' w∧aB ρ v v':=by
 unfold strOf at hv
 split at hv
 ·cases hv;simp only[aB] at hx;subst hx;exact⟨.string .empty,by simp[Conv.bytesToString],by simp only[aB]⟩
 ·rename_i a n c
  split at hv
  ·rename_i hn
   subst hn
   cases hv
   refine⟨.string .empty,?_,by simp only[aB]⟩
   obtain⟨_,_,sp⟩:=a
   cases sp with
   |none=>simp only[aB] at hx;obtain⟨_,_,_,_,_,_,rfl⟩:=hx;simp[Conv.bytesToString,loadCells,loadCellsFrom]
   |some _=>simp only[aB] at hx;obtain⟨_,_,_,_,_,_,rfl⟩:=hx;simp[Conv.bytesToString,loadCells,loadCellsFrom]
  ·simp only[Option.map_eq_some_iff,Option.bind_eq_some_iff] at hv
   obtain⟨bs,⟨l,hl,hb⟩,rfl⟩:=hv
   obtain⟨i,o,sp⟩:=a
   cases sp with
   |some _=>simp[aW] at hl
   |none=>
    simp only[aB] at hx;obtain⟨b,s,c',hr,_,_,rfl⟩:=hx
    obtain⟨l',hrun,hrel,_,_⟩:=kG hi (a:=⟨i,o,none⟩) hr hl
    refine⟨.string ⟨⟨bs⟩⟩,?_,by simp only[aB]⟩
    simp only[Conv.bytesToString,Sem.run_bind,hrun,Result.andThen_ok]
    rw[←Array.forIn_toList]
    simp only[Sem.run_pure]
    rw[Ah (P:=P) (w:=w) (fun n s=>by rfl) l l' bs .empty hrel hb]
    rfl
 ·cases hv
set_option maxHeartbeats 1000000 in
theorem xT (hi:Inv P B ρ h w) {ev ev':Operand→Value} (hev:∀x,aB ρ (ev x) (ev' x)) (o:Oper) {v:Value} (hv:aM P ev h o.op=some v):
  ∃v',(execOp ev' o).run P w= .ok (.value v') w∧aB ρ v v':=by
 obtain⟨dst,op,ty,pos,after,guard⟩:=o
 simp only at hv
 cases op with
 |move x=>simp only[aM,Option.some.injEq] at hv;subst hv;exact⟨_,rfl,hev x⟩
 |assign x=>simp only[aM,Option.some.injEq] at hv;subst hv;exact⟨_,rfl,hev x⟩
 |pick c a b=>
  simp only[aM] at hv
  split at hv
  ·rename_i t hc
   have h1:=hev c
   rw[hc] at h1
   simp only[aB] at h1
   simp only[Option.some.injEq] at hv;subst hv
   refine⟨if t then ev' a else ev' b,?_,by cases t<;>simp[hev]⟩
   simp[execOp,h1,asBool]
  ·cases hv
 |build t parts=>
  simp only[aM] at hv
  obtain⟨v',hr,hrel⟩:=Hf (w:=w) (parts':=parts.map fun p=>(p.1,ev' p.2)) (by
   simp only[Array.toList_map];exact Cw.map (f:=fun p:Nat×Operand=>ev p.2) (g:=fun p=>ev' p.2) (k:=fun p=>p.1) (fun p=>hev p.2) _) hv
  refine⟨v',?_,hrel⟩
  show(do pure (Next.value (←Instr.build t (parts.map fun(i,x)=>(i,ev' x)))):Sem Next).run P w=_
  simp_all
 |load t a=>
  simp only[aM] at hv
  split at hv
  ·rename_i a0 ha
   have h1:=hev a
   rw[ha] at h1
   obtain⟨v',hr,hrel⟩:=zR hi h1 hv
   exact⟨v',by simp[execOp,hr],hrel⟩
  ·cases hv
 |nilCheck x=>
  simp only[aM] at hv
  split at hv
  ·rename_i a ha
   have h1:=hev x
   rw[ha] at h1
   simp only[Option.some.injEq] at hv;subst hv
   have h2:=h1
   simp only[aB] at h1
   obtain⟨b,s,hb,he⟩:=h1
   exact⟨ev' x,by simp[execOp,he],h2⟩
  ·rename_i f a b ha
   have h1:=hev x
   rw[ha] at h1
   simp only[Option.some.injEq] at hv;subst hv
   have h2:=h1
   simp only[aB,xB] at h1
   obtain⟨_,_,_,rfl,_,_,he⟩:=h1
   exact⟨ev' x,by simp[execOp,he],h2⟩
  ·rename_i f a b ha
   have h1:=hev x
   rw[ha] at h1
   simp only[Option.some.injEq] at hv;subst hv
   have h2:=h1
   simp only[aB,xB] at h1
   obtain⟨_,_,_,⟨_,_,_,rfl⟩,_,_,he⟩:=h1
   exact⟨ev' x,by simp[execOp,he],h2⟩
  ·cases hv
 |binOp op t x y yt=>
  simp only[aM] at hv
  obtain⟨v',hr,hrel⟩:=Ox (P:=P) (w:=w) (hev x) (hev y) hv
  refine⟨v',?_,hrel⟩
  show(do pure (Next.value (←(do eqGuard op t x y (ev' x) (ev' y);binOp op t (ev' x) (ev' y)))):Sem Next).run P w=_
  rw[Sem.run_bind,hr]
  rfl
 |unOp op t x=>
  simp only[aM] at hv
  split at hv
  ·rename_i k n hx
   have h1:=hev x
   rw[hx] at h1
   simp only[aB] at h1
   simp only[Option.some.injEq] at hv;subst hv
   exact⟨.int k (k.wrap (0 - n)),by simp[execOp,h1,Op.unary,Op.intArith],by simp only[aB]⟩
  ·rename_i b hx
   have h1:=hev x
   rw[hx] at h1
   simp only[aB] at h1
   simp only[Option.some.injEq] at hv;subst hv
   exact⟨.bool !b,by simp[execOp,h1,Op.unary],by simp only[aB]⟩
  ·cases hv
 |convert s d x=>
  simp only[aM] at hv
  split at hv
  ·rename_i ds k _ n hs hd hx
   have h1:=hev x
   rw[hx] at h1
   simp only[aB] at h1
   simp only[Option.some.injEq] at hv;subst hv
   exact⟨.int k (k.wrap n),by simp[execOp,h1,convert,run_underlying hs,run_underlying hd,Conv.intToInt],by simp only[aB]⟩
  ·rename_i z hs hd hx
   have h1:=hev x
   rw[hx] at h1
   simp only[aB] at h1
   simp only[Option.some.injEq] at hv;subst hv
   exact⟨.string z,by simp[execOp,h1,convert,run_underlying hs,run_underlying hd],by simp only[aB]⟩
  ·rename_i e hs hd
   split at hv
   ·rename_i he
    obtain⟨v',hr,hrel⟩:=Ol hi (hev x) hv
    refine⟨v',?_,hrel⟩
    have hcv:(convert s d (ev' x)).run P w= .ok v' w:=by
     obtain⟨a,n,c,hx⟩:=G5 (hev x) hv
     rw[hx] at hr ⊢
     simp[convert,run_underlying hs,run_underlying hd,run_underlying he,hr]
    simp[execOp,hcv]
   ·cases hv
  ·cases hv
 |makeInterface t x=>
  simp only[aM] at hv
  split at hv
  ·cases hv
  ·rename_i d hd hni
   simp only[Option.some.injEq] at hv;subst hv
   refine⟨.iface t (ev' x),?_,by simp only[aB];exact⟨_,hev x,rfl⟩⟩
   have:P.concrete t=true:=by
    unfold Program.concrete
    rw[hni]
    cases d<;>grind
   simp[execOp,run_makeInterface w t (ev' x) this]
  ·cases hv
 |makeFunc fn first captured=>
  simp only[aM] at hv
  split at hv
  ·rename_i f
   simp only[Option.some.injEq] at hv;subst hv
   refine⟨.func (.func f) (first.map ev') (captured.map ev'),by simp[execOp,Instr.makeFunc],?_⟩
   simp only[aB,xB]
   exact⟨_,_,_,rfl,iC.map hev _,iC.map hev _,rfl⟩
  ·cases hv
 |slice t x lo hi_ mx=>
  simp only[aM] at hv
  obtain⟨v',hr,hrel⟩:=Gu hi (hev x) (rH.map hev lo) (rH.map hev hi_) (rH.map hev mx) hv
  exact⟨v',by simp[execOp,hr],hrel⟩
 |fieldAddr s x f=>
  simp only[aM] at hv
  split at hv
  ·rename_i fs a hd hx
   have h1:=hev x
   rw[hx] at h1
   simp only[aB] at h1
   obtain⟨b,sp,hb,he⟩:=h1
   split at hv
   ·rename_i fd hf
    split at hv
    ·cases hv
    ·rename_i hn
     simp only[Option.some.injEq] at hv;subst hv
     obtain⟨i,hinf,_⟩:=C1 hn
     refine⟨.pointer (some (Addr.add ⟨b,a.off+sp.2,a.spot⟩ fd.offset)),?_,?_⟩
     ·simp[execOp,he,Instr.fieldAt,run_underlying hd,hf,Instr.sureAddr,fieldPlace,dJ hinf,hn]
     ·simp only[aB]
      refine⟨b,sp,?_,?_⟩
      ·unfold Addr.add;split<;>exact hb
      ·unfold Addr.add;grind
   ·cases hv
  ·cases hv
 |field t x f=>
  simp only[aM] at hv
  split at hv
  ·rename_i fs cs hd hx
   have h1:=hev x
   rw[hx] at h1
   simp only[aB] at h1
   obtain⟨cs',hc,he⟩:=h1
   split at hv
   ·rename_i fd hf
    obtain⟨v',hr,hrel⟩:=nR (P:=P) (w:=w) hv (fH.1 hc)
    exact⟨v',by simp[execOp,he,Instr.field,run_underlying hd,hf,asAgg,hr],hrel⟩
   ·cases hv
  ·cases hv
 |indexAddr t x i=>
  simp only[aM] at hv
  split at hv
  ·rename_i n e a k j hd hx hix
   have h1:=hev x
   have h2:=hev i
   rw[hx] at h1
   rw[hix] at h2
   simp only[aB] at h1 h2
   obtain⟨b,sp,hb,he⟩:=h1
   split at hv
   ·rename_i hc
    simp only[Option.some.injEq] at hv;subst hv
    obtain⟨inf,hinf⟩:=Option.isSome_iff_exists.1 hc.2.2
    refine⟨.pointer (some (Addr.add ⟨b,a.off+sp.2,a.spot⟩ (j.toNat*P.cellsOf e))),?_,?_⟩
    ·simp[execOp,he,h2,Instr.indexAt,asIntOf,run_underlying hd,Instr.sureAddr,hc.1,hc.2.1,dJ hinf]
    ·simp only[aB]
     refine⟨b,sp,?_,?_⟩
     ·unfold Addr.add;split<;>exact hb
     ·unfold Addr.add;grind
   ·cases hv
  ·rename_i e a n c k j hd hx hix
   have h1:=hev x
   have h2:=hev i
   rw[hx] at h1
   rw[hix] at h2
   split at hv
   ·rename_i hc
    obtain⟨ab,ao,asp⟩:=a
    obtain rfl:asp=none:=hc.2.2.2
    simp only[aB] at h1 h2
    obtain⟨b,sp,c',hb,_,_,he⟩:=h1
    simp only[Option.some.injEq] at hv;subst hv
    obtain⟨inf,hinf⟩:=Option.isSome_iff_exists.1 hc.2.2.1
    refine⟨.pointer (some (Addr.add ⟨b,ao+sp.2,none⟩ (j.toNat*P.cellsOf e))),?_,?_⟩
    ·simp[execOp,he,h2,Instr.indexAt,asIntOf,run_underlying hd,hc.1,hc.2.1,dJ hinf]
    ·rw[bG,bG]
     simp only[aB]
     grind
   ·cases hv
  ·cases hv
 |index t x i=>
  simp only[aM] at hv
  split at hv
  ·rename_i n e cs k j hd hx hix
   have h1:=hev x
   have h2:=hev i
   rw[hx] at h1
   rw[hix] at h2
   simp only[aB] at h1 h2
   obtain⟨cs',hc',he⟩:=h1
   split at hv
   ·rename_i hc
    obtain⟨inf,hinf⟩:=Option.isSome_iff_exists.1 hc.2.2
    obtain⟨v',hr,hrel⟩:=nR (P:=P) (w:=w) hv (fH.1 hc')
    exact⟨v',by simp[execOp,he,h2,Instr.index,asIntOf,run_underlying hd,hc.1,hc.2.1,dJ hinf,hr],hrel⟩
   ·cases hv
  ·rename_i s k j hd hx hix
   have h1:=hev x
   have h2:=hev i
   rw[hx] at h1
   rw[hix] at h2
   simp only[aB] at h1 h2
   split at hv
   ·rename_i hc
    simp only[Option.map_eq_some_iff] at hv
    obtain⟨u,hu,rfl⟩:=hv
    exact⟨.int .u8 u.toNat,by simp[execOp,h1,h2,Instr.index,asIntOf,run_underlying hd,hc,hu],by simp only[aB]⟩
   ·cases hv
  ·cases hv
 |extract t i=>
  simp only[aM] at hv
  split at hv
  ·rename_i vs ht
   have h1:=hev t
   rw[ht] at h1
   simp only[aB] at h1
   obtain⟨vs',hc,he⟩:=h1
   obtain⟨v',hv',hrel⟩:=(fH.1 hc).get hv
   exact⟨v',by simp only[Array.getElem?_toList] at hv';simp[execOp,he,Instr.extract,hv'],hrel⟩
  ·cases hv
 |lookup t x ix ok=>
  simp only[aM] at hv
  obtain⟨v',hr,hrel⟩:=Jz hi (hev x) (hev ix) hv
  exact⟨v',by simp[execOp,hr],hrel⟩
 |_=>simp only[aM] at hv;cases hv
theorem pG (f:Nat→Value):(Array.range 0).map f= #[]:=by grind
theorem pH {z:List Value} {size:Nat} (hz:z.length=size) (n:Nat):((Array.range (n*size)).map fun i=>(⟨z⟩:Array Value)[i % (⟨z⟩:Array Value).size]!)=⟨dV z n⟩:=by
 apply Array.ext'
 simp only[Array.toList_map,Array.toList_range]
 show(List.range (n*size)).map (fun i=>(⟨z⟩:Array Value)[i % z.length]!)=dV z n
 subst hz
 induction n with
 |zero=>simp[dV]
 |succ n ih=>
  rw[Nat.succ_mul,List.range_add,List.map_append,ih]
  unfold dV
  rw[List.replicate_succ',List.flatten_append]
  congr 1
  simp only[List.flatten_cons,List.flatten_nil,List.append_nil,List.map_map]
  apply List.ext_getElem
  ·simp
  ·intro j h1 h2
   simp at h1 h2
   simp only[List.getElem_map,List.getElem_range,Function.comp]
   have hm:(n*z.length+j) % z.length=j:=by rw[Nat.mul_comm,Nat.mul_add_mod,Nat.mod_eq_of_lt (by omega)]
   grind
theorem tT {z:List Value} (hz:aH ρ z z) (n:Nat):aH ρ (dV z n) (dV z n):=by
 unfold dV
 induction n with
 |zero=>exact aH.nil
 |succ n ih=>rw[List.replicate_succ,List.flatten_cons];exact hz.append ih
theorem xW {ev ev':Operand→Value} (hev:∀x,aB ρ (ev x) (ev' x)) (o:Oper) {b:jN} {f:Nat→Value} (hv:cC P ev o.op=some (b,f)):
  ∃(o':Obj) (g:Nat→Value),pA P ρ (0,0) b o'∧(execOp ev' o).run P w= .ok (.value (g w.heap.size)) (w.alloc o')∧∀(ρ':fN) i s,s.2=0→ρ' i=some (w.heap.size,s)→aB ρ' (f i) (g w.heap.size):=by
 obtain⟨dst,op,ty,pos,after,guard⟩:=o
 simp only at hv
 cases op with
 |alloc e=>
  simp only[cC,Option.map_eq_some_iff] at hv
  obtain⟨z,hz,hv⟩:=hv
  cases hv
  obtain⟨i,zv,hi,_,hzr,hzc,hzl,hzz⟩:=lV (w:=w) hz
  refine⟨.cells zv.cells e,fun n=> .pointer (some ⟨n,0,none⟩),⟨zv.cells,rfl,?_,?_,fun _=>⟨rfl,rfl⟩⟩,?_,?_⟩
  ·simp only[List.drop_zero];rw[hzc,List.take_of_length_le (Nat.le_refl _)];exact hzz ρ
  ·rw[←hzc];simp
  ·simp[execOp,Instr.alloc,hzr,newVar,newRow]
  ·intro ρ' i s hs hr;simp only[aB];exact⟨_,_,hr,by rw[hs]⟩
 |box e x=>
  simp only[cC,Option.map_eq_some_iff] at hv
  obtain⟨l,hl,hv⟩:=hv
  cases hv
  unfold fF at hl
  split at hl
  ·cases hl
  ·rename_i ht
   cases hl
   have hc:=(hev x).cells (by simpa using ht)
   have hcl:=hc.length
   refine⟨.cells (ev' x).cells e,fun n=> .pointer (some ⟨n,0,none⟩),⟨_,rfl,?_,?_,fun _=>⟨rfl,rfl⟩⟩,?_,?_⟩
   ·grind
   ·grind
   ·simp[execOp,Instr.box,newVar,newRow]
   ·intro ρ' i s hs hr;simp only[aB];exact⟨_,_,hr,by rw[hs]⟩
 |buildSlice t len parts=>
  simp only[cC] at hv
  split at hv
  ·rename_i e hd
   split at hv
   ·rename_i z hz
    obtain⟨i,zv,hi,_,hzr,hzc,hzl,hzz⟩:=lV (w:=w) hz
    split at hv
    ·rename_i hle
     simp only[Option.map_eq_some_iff] at hv
     obtain⟨l,hl,hv⟩:=hv
     cases hv
     obtain⟨r',hr',hrel⟩:=vI _ (parts.map fun p=>(p.1,ev' p.2)).toList _ _ l (by
      simp only[Array.toList_map];exact Cw.map (f:=fun p:Nat×Operand=>ev p.2) (g:=fun p=>ev' p.2) (k:=fun p=>p.1) (fun p=>hev p.2) _) (tT (hzz ρ) len) hl
     have hrl:=hrel.length
     have hz':zv.cells=⟨z⟩:=by rw[←hzc]
     refine⟨.cells ⟨r'⟩ e,fun n=> .slice (some ⟨n,0,none⟩) len len,⟨_,rfl,?_,?_,fun _=>⟨rfl,rfl⟩⟩,?_,?_⟩
     ·grind
     ·show 0+l.length+0*_≤r'.length;omega
     ·have hle':¬len*P.cellsOf e>2^24:=by omega
      have hr2:Instr.fill (fun i=>some (i*P.cellsOf e,P.cellsOf e)) ⟨dV z len⟩ (parts.map fun(x:Nat×Operand)=>(x.1,ev' x.2)).toList=some ⟨r'⟩:=hr'
      show(do pure (Next.value (←Instr.buildSlice t len (parts.map fun(i,x)=>(i,ev' x)))):Sem Next).run P w=_
      simp only[Instr.buildSlice,Sem.run_bind,run_underlying hd,Result.andThen_ok,dJ hi,hle',if_false]
      have hc:=pH hzl len
      by_cases h0:len*P.cellsOf e=0
      ·have hnil:(⟨dV z len⟩:Array Value)= #[]:=by rw[←hc,h0,pG]
       rw[hnil] at hr2
       simp only[h0,if_true,Sem.run_bind,Sem.run_pure,Result.andThen_ok]
       rw[pG,hr2]
       simp[newRow]
      ·simp only[h0,if_false,Sem.run_bind,hzr,Sem.run_pure,Result.andThen_ok,hz']
       rw[hc,hr2]
       simp[newRow]
     ·intro ρ' i s hs hr;simp only[aB];exact⟨_,_,_,hr,Nat.le_refl _,Nat.le_add_right _ _,by rw[hs]⟩
    ·cases hv
   ·cases hv
  ·cases hv
 |makeSlice t l c=>
  simp only[cC] at hv
  split at hv
  ·rename_i e k1 ll k2 cc hd hl hc
   split at hv
   ·rename_i z hz
    obtain⟨i,zv,hi,_,hzr,hzc,hzl,hzz⟩:=lV (w:=w) hz
    split at hv
    ·rename_i hcond
     obtain⟨h0,h1,h2,h3⟩:=hcond
     simp only[Option.some.injEq,Prod.mk.injEq] at hv
     obtain⟨rfl,rfl⟩:=hv
     have hl':=hev l
     have hc':=hev c
     rw[hl] at hl'
     rw[hc] at hc'
     simp only[aB] at hl' hc'
     have hz':zv.cells=⟨z⟩:=by rw[←hzc]
     have hb:i.bytes=P.bytesOf e:=by simp[Program.bytesOf,hi]
     refine⟨.cells ⟨dV z cc.toNat⟩ e,fun n=> .slice (some ⟨n,0,none⟩) ll.toNat cc.toNat,⟨_,rfl,?_,?_,fun _=>⟨rfl,rfl⟩⟩,?_,?_⟩
     ·simp only[List.drop_zero];rw[List.take_of_length_le (Nat.le_refl _)];exact tT (hzz ρ) _
     ·show 0+(dV z cc.toNat).length+0*_≤(dV z cc.toNat).length;omega
     ·have hwl:IntKind.i64.wrap ll=ll:=IntWalk.i64_in _ ⟨by omega,by omega⟩
      have hwc:IntKind.i64.wrap cc=cc:=IntWalk.i64_in _ ⟨by omega,by omega⟩
      have t1:(typeInfo e).run P w= .ok i w:=by simp[typeInfo,hi]
      have hno:((decide (cc<0)||decide ((i.bytes:Int)*cc>2^48))||decide (ll<0)||decide (ll>cc))=false:=by
       grind
      simp only[execOp,hl',hc',Instr.makeSlice,Sem.run_bind,run_underlying hd,Result.andThen_ok,asInt,asIntOf,Sem.run_pure,t1,hwl,hwc,hno,Bool.false_eq_true,if_false,run_askRoom,dJ hi]
      have hcz:=pH hzl cc.toNat
      by_cases h0:cc.toNat*P.cellsOf e=0
      ·have hnil:(⟨dV z cc.toNat⟩:Array Value)= #[]:=by rw[←hcz,h0,pG]
       rw[hnil]
       simp only[h0,if_true,Sem.run_bind,Sem.run_pure,Result.andThen_ok]
       rw[pG]
       simp[newRow]
      ·simp only[h0,if_false,Sem.run_bind,hzr,Sem.run_pure,Result.andThen_ok,hz']
       rw[hcz]
       simp[newRow]
     ·intro ρ' i s hs hr;simp only[aB];exact⟨_,_,_,hr,Nat.le_refl _,Nat.le_add_right _ _,by rw[hs]⟩
    ·cases hv
   ·cases hv
  ·cases hv
 |makeMap t r=>
  cases r with
  |none=>
   simp only[cC,Option.some.injEq,Prod.mk.injEq] at hv
   obtain⟨rfl,rfl⟩:=hv
   refine⟨.map #[] 0,fun n=> .map (some n),⟨[],rfl,rfl⟩,rfl,?_⟩
   intro ρ' i s hs hr;simp only[aB];grind
  |some x=>
   simp only[cC] at hv
   split at hv
   ·rename_i key elem k n hd hx
    simp only[Option.some.injEq,Prod.mk.injEq] at hv
    obtain⟨rfl,rfl⟩:=hv
    have h1:=hev x
    rw[hx] at h1
    simp only[aB] at h1
    refine⟨.map #[] 0,fun n=> .map (some n),⟨[],rfl,rfl⟩,by simp[execOp,Instr.makeMap,h1,run_underlying hd,asInt,asIntOf],?_⟩
    intro ρ' i s hs hr;simp only[aB];grind
   ·cases hv
 |_=>simp only[cC] at hv;cases hv
end Go.Ab
end
