/- A part of the proof. -/
import Derived.WalkKit
import Derived.AtR
import Derived.ChangeKeysEq
section
namespace Go.Ab
theorem tt.{u} {c:Prop} {_:Decidable c} (n:¬c) {α:Sort u} {t e:α}:ite c t e=e:=if_neg n
theorem aab.{u} {c:Prop} {_:Decidable c} {α:Sort u} {t e:α}(n:¬c:=by omega):ite c t e=e:=if_neg n
theorem tu.{u} {c:Prop} {_:Decidable c} (n:c) {α:Sort u} {t e:α}:ite c t e=t:=if_pos n
theorem aae.{u} {c:Prop} {_:Decidable c} {α:Sort u} {t e:α}(n:c:=by omega):ite c t e=t:=if_pos n
end Go.Ab
namespace Go.Ab
noncomputable section
def top:Value:= .chan none
def nJ:Value->Bool
 |.chan _=>true
 |_=>false
def cT:Value->Bool
 |.agg _|.tuple _|.chan _=>false
 |_=>true
mutual
def bU:Value->Bool
 |.bool _|.int _ _|.string _|.pointer none|.slice none _ _|.map none|.nilFunc|.nilIface=>true
 |.iface _ v=>bU v
 |.agg a=>mU a
 |.tuple a=>mU a
 |_=>false
def mU:Array Value->Bool
 |⟨l⟩=>iF l
def iF:List Value->Bool
 |[]=>true
 |v::l=>bU v&&iF l
end
abbrev dR:=Nat->Option (Nat×(Nat×Nat))
def uJ (ρ:dR):Fn->Fn->Prop
 |.yield l,g=>∃b s,ρ l=some (b,s)/\g= .yield b
 |f,g=>g=f
mutual
def aA (ρ:dR):Value->Value->Prop
 |.bool b,d=>d= .bool b
 |.int k n,d=>d= .int k n
 |.float k n,d=>d= .float k n
 |.complex k n m,d=>d= .complex k n m
 |.string s,d=>d= .string s
 |.pointer none,d=>d= .pointer none
 |.pointer (some a),d=>∃b s,ρ a.block=some (b,s)/\d= .pointer (some ⟨b,a.off+s.2,a.spot⟩)
 |.slice none l c,d=>d= .slice none l c
 |.slice (some ⟨i,o,some x⟩) l c,d=>l=0/\c=0/\∃q f,(x=1->f=0)/\(x=2->∃b s,ρ i=some (b,s)/\f<=s.1/\(0<f->q=⟨b,o+s.2,none⟩))/\d= .slice (some q) 0 f
 |.slice (some ⟨i,o,none⟩) l c,d=>∃b s f,ρ i=some (b,s)/\c<=f/\f<=c+s.1/\d= .slice (some ⟨b,o+s.2,none⟩) l f
 |.map none,d=>d= .map none
 |.map (some r),d=>∃b s,ρ r=some (b,s)/\d= .map (some b)
 |.chan none,_=>True
 |.chan (some _),_=>False
 |.func y z g,d=>∃j p e,uJ ρ y j/\fG ρ z p/\fG ρ g e/\d= .func j p e
 |.nilFunc,d=>d= .nilFunc
 |.iface t v,d=>∃u,aA ρ v u/\d= .iface t u
 |.nilIface,d=>d= .nilIface
 |.agg g,d=>∃e,fG ρ g e/\d= .agg e
 |.tuple g,d=>∃e,fG ρ g e/\d= .tuple e
def fG (ρ:dR):Array Value->Array Value->Prop
 |⟨l⟩,a=>aC ρ l a.toList
def aC (ρ:dR):List Value->List Value->Prop
 |[],a=>a=[]
 |v::l,a=>∃c b,aA ρ v c/\aC ρ l b/\a=c::b
end
inductive hZ where
 |cells (c:List Value) (elem:TypeId) (fz:Nat×Nat) (exact:Bool)
 |loop (st:LoopState) (pending:Option Code) (fn:FuncId) (tmps:List Value) (params:Array Tmp) (assign body:Code) (defers:Nat)
 |marks (here:Bool)
 |map (es:List (Value×Value×Nat)) (clock:Nat)
 |mapIter (m:Option Nat) (since:Nat) (seen:List Nat) (last:Nat)
 |Oo (s:ByteArray) (pos:Nat)
inductive Tr (α:Type) where
 |lf
 |nd (v:α) (l r:Tr α)
noncomputable def Tr.get {α:Type} (d:α) (t:Tr α):Nat->α:=
 Tr.rec (motive:=fun _=>Nat->α) (fun _=>d) (fun v _ _ gl gr n=>Nat.rec (motive:=fun _=>α) v (fun m _=>Nat.rec (motive:=fun _=>α) (gl (Nat.div m 2)) (fun _ _=>gr (Nat.div m 2)) (Nat.mod m 2)) n) t
noncomputable def Tr.path {α:Type} (d:α) (f:Nat):Nat->α->Tr α:=
 Nat.rec (motive:=fun _=>Nat->α->Tr α) (fun _ _=> .lf) (fun _ a n o=>Nat.rec (motive:=fun _=>Tr α) (.nd o .lf .lf) (fun m _=>Nat.rec (motive:=fun _=>Tr α) (.nd d (a (Nat.div m 2) o) .lf) (fun _ _=> .nd d .lf (a (Nat.div m 2) o)) (Nat.mod m 2)) n) f
noncomputable def Tr.set {α:Type} (d:α) (t:Tr α):Nat->α->Tr α:=
 Tr.rec (motive:=fun _=>Nat->α->Tr α) (fun n o=>Tr.path d (n+1) n o)
  (fun v l r a b n o=>Nat.rec (motive:=fun _=>Tr α) (.nd o l r) (fun m _=>Nat.rec (motive:=fun _=>Tr α) (.nd v (a (Nat.div m 2) o) r) (fun _ _=> .nd v l (b (Nat.div m 2) o)) (Nat.mod m 2)) n) t
theorem F6 {β:Type} (n:Nat) (a b:β):Nat.rec (motive:=fun _=>β) a (fun _ _=>b) (Nat.mod n 2)=if n % 2=0 then a else b:=by
 show Nat.rec (motive:=fun _=>β) a (fun _ _=>b) (n % 2)=_;cases n % 2<;>rfl
theorem Tr.Ay {α:Type} (d:α) (n:Nat):(Tr.lf:Tr α).get d n=d:=rfl
theorem Tr.Ds {α:Type} (d v:α) (l r:Tr α):(Tr.nd v l r).get d 0=v:=rfl
theorem Tr.xJ {α:Type} (d v:α) (l r:Tr α) (n:Nat):(Tr.nd v l r).get d (n+1)=if n % 2=0 then l.get d (n/2) else r.get d (n/2):=F6 _ _ _
theorem Tr.eh {α:Type} (d:α) (f:Nat) (o:α):Tr.path d (f+1) 0 o= .nd o .lf .lf:=rfl
theorem Tr.c8 {α:Type} (d:α) (f n:Nat) (o:α):Tr.path d (f+1) (n+1) o=if n % 2=0 then .nd d (Tr.path d f (n/2) o) .lf else .nd d .lf (Tr.path d f (n/2) o):=F6 _ _ _
theorem Tr.bx {α:Type} (d:α) (n:Nat) (o:α):(Tr.lf:Tr α).set d n o=Tr.path d (n+1) n o:=rfl
theorem Tr.lz {α:Type} (d v:α) (l r:Tr α) (o:α):(Tr.nd v l r).set d 0 o= .nd o l r:=rfl
theorem Tr.jh {α:Type} (d v:α) (l r:Tr α) (n:Nat) (o:α):(Tr.nd v l r).set d (n+1) o=if n % 2=0 then .nd v (l.set d (n/2) o) r else .nd v l (r.set d (n/2) o):=F6 _ _ _
theorem Tr.Kg {α:Type} (d:α):∀(f n m:Nat) (o:α),n<f->(Tr.path d f n o).get d m=if m=n then o else d
 |0,n,_,_,h=>absurd h (Nat.not_lt_zero n)
 |f+1,0,m,o,_=>by
  rw[Tr.eh];cases m with
  |zero=>simp[Tr.Ds]
  |succ m=>simp[Tr.xJ,Tr.Ay]
 |f+1,n+1,m,o,h=>by
  have c:=fun m=>Tr.Kg d f (n/2) m o (by omega);rw[Tr.c8];by_cases b:n % 2=0;rw[tu b];cases m with
  |zero=>simp[Tr.Ds]
  |succ m=>
   rw[Tr.xJ];by_cases a:m % 2=0;grind;rw[tt a,Tr.Ay];grind
  rw[tt b];cases m with
  |zero=>simp[Tr.Ds]
  |succ m=>
   rw[Tr.xJ];by_cases a:m % 2=0;rw[tu a,Tr.Ay];grind;grind
theorem Tr.dO {α:Type} (d:α):∀(t:Tr α) (n m:Nat) (o:α),(t.set d n o).get d m=if m=n then o else t.get d m
 |.lf,n,m,o=>by rw[Tr.Ay,Tr.bx];exact Tr.Kg d (n+1) n m o (Nat.lt_succ_self _)
 |.nd v l r,0,m,o=>by
  rw[Tr.lz];cases m with
  |zero=>simp[Tr.Ds]
  |succ m=>simp[Tr.xJ]
 |.nd v l r,n+1,m,o=>by
  rw[Tr.jh];by_cases b:n % 2=0;rw[tu b];cases m with
  |zero=>simp[Tr.Ds]
  |succ m=>
   rw[Tr.xJ,Tr.xJ];by_cases a:m % 2=0;rw[tu a,tu a,Tr.dO d l];grind;grind
  rw[tt b];cases m with
  |zero=>simp[Tr.Ds]
  |succ m=>
   rw[Tr.xJ,Tr.xJ];by_cases a:m % 2=0;grind;rw[tt a,tt a,Tr.dO d r];grind
structure AH where
 base:Nat
 next:Nat
 old:Nat->Option hZ
 new:Tr (Option hZ)
def AH.get (h:AH) (i:Nat):Option hZ:=AH.rec (motive:=fun _=>Option hZ) (fun a _ b new=>Bool.rec (motive:=fun _=>Option hZ) (new.get none (Nat.sub i a)) (b i) (Nat.blt i a)) h
def AH.set (h:AH) (i:Nat) (o:Option hZ):AH:=AH.rec (motive:=fun _=>AH) (fun a next b new=>Bool.rec (motive:=fun _=>AH) ⟨a,next,b,new.set none (Nat.sub i a) o⟩ ⟨a,next,b,new⟩ (Nat.blt i a)) h
def AH.alloc (h:AH) (o:hZ):AH:=AH.rec (motive:=fun _=>AH) (fun a next b new=>⟨a,Nat.succ next,b,new.set none (Nat.sub next a) (some o)⟩) h
theorem AH.get_eq (h:AH) (i:Nat):h.get i=if i<h.base then h.old i else h.new.get none (i - h.base):=by
 obtain⟨a,next,b,new⟩:=h;simp only[AH.get];cases hb:Nat.blt i a with
 |true=>simp_all
 |false=>rw[tt (by rw[<-Nat.blt_eq,hb];simp)];rfl
theorem AH.An (h:AH) (i:Nat) (o:Option hZ):h.set i o=if i<h.base then h else {h with new:=h.new.set none (i - h.base) o}:=by
 obtain⟨a,next,b,new⟩:=h;simp only[AH.set];cases hb:Nat.blt i a with
 |true=>simp_all
 |false=>rw[tt (by rw[<-Nat.blt_eq,hb];simp)];rfl
theorem AH.alloc_eq (h:AH) (o:hZ):h.alloc o={h with new:=h.new.set none (h.next - h.base) (some o),next:=h.next+1}:=rfl
theorem AH.dO {h:AH} {i j:Nat} {o:Option hZ} (a:h.base<=i):(h.set i o).get j=if j=i then o else h.get j:=by
 rw[AH.An,tt (Nat.not_lt.2 a),AH.get_eq,AH.get_eq];by_cases b:j<h.base;grind;simp only[b,if_false,Tr.dO];grind
@[simp] theorem AH.Be {h:AH} {i:Nat} {o:Option hZ}:(h.set i o).base=h.base:=by rw[AH.An];split<;>rfl
@[simp] theorem AH.Vf {h:AH} {i:Nat} {o:Option hZ}:(h.set i o).next=h.next:=by rw[AH.An];split<;>rfl
@[simp] theorem AH.dm {h:AH} {o:hZ}:(h.alloc o).base=h.base:=rfl
@[simp] theorem AH.fe {h:AH} {o:hZ}:(h.alloc o).next=h.next+1:=rfl
theorem AH.nI {h:AH} {j:Nat} {o:hZ} (hb:h.base<=h.next):(h.alloc o).get j=if j=h.next then some o else h.get j:=by
 rw[AH.alloc_eq,AH.get_eq,AH.get_eq];by_cases a:j<h.base;grind;simp only[a,if_false,Tr.dO];grind
def aQ (c:List Value) (a:Nat) (xs:List Value):List Value:=c.take a++xs++c.drop (a+xs.length)
end
end Go.Ab
end
section
namespace Go.Ab
noncomputable section
def eF (P:Program) (t:TypeId):Option Bool:=
 (P.underlying t).map fun|.struct _|.array _ _=>true|_=>false
def zeroOf (P:Program) (t:TypeId):Option (List Value):=
 ((P.info? t).bind (·.zero)).bind fun z=>
  if bU z&&z.cells.toList.all cT&&z.cells.size==P.cellsOf t then some z.cells.toList else none
def bytesOf (P:Program) (t:TypeId):Nat:=P.bytesOf t
def aT (h:AH) (a:Addr) (n:Nat):Option (List Value):=
 if a.spot.isSome then none else
 match h.get a.block with
 |some (.cells c _ _ _)=>if a.off+n<=c.length then some ((c.drop a.off).take n) else none
 |_=>none
def lS (P:Program) (h:AH) (t:TypeId) (a:Addr):Option Value:=
 match eF P t with
 |some true=>(aT h a (P.cellsOf t)).map fun l=> .agg ⟨l⟩
 |some false=>
  if a.spot.isSome then none else
  match h.get a.block with
  |some (.cells c _ _ _)=>c[a.off]?
  |_=>none
 |none=>none
def bL (h:AH) (a:Addr) (vs:List Value):Option AH:=
 if a.spot.isSome||a.block<h.base|| !vs.all cT then none else
 match h.get a.block with
 |some (.cells c e b x)=>if b.2=0/\a.off+vs.length<=c.length then some (h.set a.block (some (.cells (aQ c a.off vs) e b x))) else none
 |_=>none
def dS (v:Value):Option (List Value):=if nJ v then none else some v.cells.toList
def Bl (P:Program) (h:AH) (t:TypeId) (a:Addr) (v:Value):Option AH:=
 match dS v with
 |some b=>if b.length=P.cellsOf t/\(P.info? t).isSome then bL h a b else none
 |none=>none
def apart (P:Program) (t:TypeId) (cs:List Value) (a:Nat):Option Value:=
 match eF P t with
 |some true=>if a+P.cellsOf t<=cs.length then some (.agg ⟨(cs.drop a).take (P.cellsOf t)⟩) else none
 |some false=>cs[a]?
 |none=>none
def vE (place:Nat->Option (Nat×Nat)) (cells:List Value):List (Nat×Value)->Option (List Value)
 |[]=>some cells
 |(i,v)::rest=>
  match place i,dS v with
  |some (a,size),some b=>if b.length=size/\a+b.length<=cells.length then vE place (aQ cells a b) rest else none
  |_,_=>none
def wQ (P:Program) (t:TypeId) (a:List (Nat×Value)):Option Value:=
 match zeroOf P t,P.underlying t with
 |some z,some (.struct b)=>
  if b.all (fun f=>(P.info? f.type).isSome) then(vE (fun i=>(b[i]?).map fun f=>(f.offset,P.cellsOf f.type)) z a).map fun l=> .agg ⟨l⟩ else none
 |some z,some (.array _ e)=>
  if(P.info? e).isSome then(vE (fun i=>some (i*P.cellsOf e,P.cellsOf e)) z a).map fun l=> .agg ⟨l⟩ else none
 |_,_=>none
def cS (z:List Value) (n:Nat):List Value:=(List.replicate n z).flatten
def lY (v:Option Value) (a:Nat) (b:Nat):Option Nat:=
 match v with
 |none=>some a
 |some (.int _ i)=>if 0<=i/\i<=b then some i.toNat else none
 |some _=>none
def rC (a:Addr):Value:= .slice (some ⟨a.block,a.off,some 2⟩) 0 0
def kC:Value:= .slice (some ⟨0,0,some 1⟩) 0 0
def cz:Value:= .slice (some ⟨0,0,some 0⟩) 0 0
def fX (h:AH) (i:Nat):Option Bool:=match h.get i with|some (.cells _ _ _ x)=>some x|_=>none
def lQ (P:Program) (h:AH) (t:TypeId) (x:Value) (g f d:Option Value):Option Value:=
 match P.underlying t,x with
 |some (.array n e),.pointer (some a)=>
  match lY d n n with
  |some m=>match(if f.isNone&&d.isSome then none else lY f n m) with
   |some c=>match lY g 0 c with
    |some l=>if(P.info? e).isSome/\a.spot=none then some (.slice (some (if m=l then a else a.add (l*P.cellsOf e))) (c - l) (m - l)) else none
    |none=>none
   |none=>none
  |none=>none
 |some .string,.string s=>
  if d.isSome then none else
  match lY f s.size s.size with
  |some c=>match lY g 0 c with
   |some l=>some (.string (s.extract l c))
   |none=>none
  |none=>none
 |some (.slice e),.slice none len b=>
  match lY d b b with
  |some m=>match(if f.isNone&&d.isSome then none else lY f len m) with
   |some c=>match lY g 0 c with
    |some l=>if(P.info? e).isSome then some (.slice none (c - l) (m - l)) else none
    |none=>none
   |none=>none
  |none=>none
 |some (.slice e),.slice (some a) len b=>
  match lY d b b with
  |some m=>match(if f.isNone&&d.isSome then none else lY f len m) with
   |some c=>match lY g 0 c with
    |some l=>
     if a.spot.isSome then(if(P.info? e).isSome/\len=0/\b=0 then some (if d.isSome then kC else cz) else none) else
     if(P.info? e).isSome/\c<=m then
      (if m=l then
       if d.isSome then some kC else
       match fX h a.block with
       |some true=>some kC
       |some false=>some (rC (a.add (l*P.cellsOf e)))
       |none=>none
      else some (.slice (some (a.add (l*P.cellsOf e))) (c - l) (m - l)))
     else none
    |none=>none
   |none=>none
  |none=>none
 |_,_=>none
def fU (P:Program) (eq:TypeId->Value->Value->Option Bool) (xs ys:List Value):List Field->Option Bool
 |[]=>some true
 |f::a=>
  if f.name="_" then fU P eq xs ys a else
  match apart P f.type xs f.offset,apart P f.type ys f.offset with
  |some x,some y=>match eq f.type x y with
   |some true=>fU P eq xs ys a
   |some false=>some false
   |none=>none
  |_,_=>none
def jR (P:Program) (eq:TypeId->Value->Value->Option Bool) (e:TypeId) (xs ys:List Value):List Nat->Option Bool
 |[]=>some true
 |i::is=>
  match apart P e xs (i*P.cellsOf e),apart P e ys (i*P.cellsOf e) with
  |some x,some y=>match eq e x y with
   |some true=>jR P eq e xs ys is
   |some false=>some false
   |none=>none
  |_,_=>none
def qI (P:Program):Nat->TypeId->Value->Value->Option Bool
 |0,_,_,_=>none
 |d+1,t,x,y=>
  match P.underlying t,x,y with
  |some .bool,.bool a,.bool b=>some (a==b)
  |some (.int _),.int k a,.int i b=>if k=i then some (a==b) else none
  |some .string,.string a,.string b=>some (a==b)
  |some (.pointer _),.pointer none,.pointer b=>some b.isNone
  |some (.pointer _),.pointer (some _),.pointer none=>some false
  |some (.interface _),.nilIface,.nilIface=>some true
  |some (.interface _),.nilIface,.iface _ _=>some false
  |some (.interface _),.iface _ _,.nilIface=>some false
  |some (.struct g),.agg c,.agg f=>if P.stoodInHeld t then none else fU P (qI P d) c.toList f.toList g.toList
  |some (.array n e),.agg c,.agg f=>if(P.info? e).isSome then jR P (qI P d) e c.toList f.toList (List.range n) else none
  |some (.slice _),.slice none _ _,.slice b _ _=>some b.isNone
  |some (.slice _),.slice (some _) _ _,.slice none _ _=>some false
  |some (.map _ _),.map none,.map b=>some b.isNone
  |some (.map _ _),.map (some _),.map none=>some false
  |some (.func _ _ _),.nilFunc,.nilFunc=>some true
  |some (.func _ _ _),.nilFunc,.func _ _ _=>some false
  |some (.func _ _ _),.func _ _ _,.nilFunc=>some false
  |_,_,_=>none
def isConst:Operand->Bool
 |.const _=>true
 |_=>false
def wW (P:Program) (t:TypeId) (x y:Operand) (a b:Value):Bool:=
 match a,b with
 |.nilIface,.nilIface=>isConst x||isConst y
 |.agg _,.agg _=> !P.eqGuardType P.depth t
 |_,_=>true
def je (op:BinOp) (x y:Int):Option Bool:=
 match op with
 |.eql=>some (x==y)
 |.neq=>some (x !=y)
 |.lss=>some (decide (x<y))
 |.leq=>some (decide (x<=y))
 |.gtr=>some (decide (x>y))
 |.geq=>some (decide (x>=y))
 |_=>none
def zF (op:BinOp) (k:IntKind) (x y:Int):Option Value:=
 if y<0 then none else
 match op with
 |.shl=>some (.int k (k.wrap (x*2^(min y.toNat k.bits))))
 |.shr=>some (.int k (x.fdiv (2^(min y.toNat k.bits))))
 |_=>none
def Jo (op:BinOp) (k:IntKind) (x y:Int):Option Value:=
 match op with
 |.add=>some (.int k (k.wrap (x+y)))
 |.sub=>some (.int k (k.wrap (x - y)))
 |.mul=>some (.int k (k.wrap (x*y)))
 |.quo=>if y=0 then none else some (.int k (k.wrap (x.tdiv y)))
 |.rem=>if y=0 then none else some (.int k (x.tmod y))
 |.eql|.neq|.lss|.leq|.gtr|.geq=>(je op x y).map .bool
 |.shl|.shr=>zF op k x y
 |.and=>some (.int k (k.wrap (BitVec.ofInt k.bits x&&&BitVec.ofInt k.bits y).toNat))
 |.or=>some (.int k (k.wrap (BitVec.ofInt k.bits x|||BitVec.ofInt k.bits y).toNat))
 |.xor=>some (.int k (k.wrap (BitVec.ofInt k.bits x^^^BitVec.ofInt k.bits y).toNat))
 |.andNot=>some (.int k (k.wrap (BitVec.ofInt k.bits x&&&~~~BitVec.ofInt k.bits y).toNat))
def Ck (op:BinOp) (x y:ByteArray):Option Value:=
 match op with
 |.add=>if x.size+y.size<=2^62 then some (.string (x++y)) else none
 |.eql=>some (.bool (x.toList==y.toList))
 |.neq=>some (.bool !(x.toList==y.toList))
 |.lss=>some (.bool (Op.bytesLess x.toList y.toList))
 |_=>none
def E3 (P:Program) (op:BinOp) (t:TypeId) (x y:Operand) (a b:Value):Option Value:=
 match a,b with
 |.int k m,.int c n=>if k=c then Jo op k m n else zF op k m n
 |.string m,.string n=>Ck op m n
 |a,b=>
  match op with
  |.eql=>if wW P t x y a b then(qI P 10000 t a b).map .bool else none
  |.neq=>if wW P t x y a b then(qI P 10000 t a b).map fun e=> .bool !e else none
  |_=>none
def bT (P:Program) (b:Operand->Value):Op->Option (hZ×(Nat->Value))
 |.alloc e=>(zeroOf P e).map fun z=>(.cells z e (0,0) true,fun i=> .pointer (some ⟨i,0,none⟩))
 |.box e x=>(dS (b x)).map fun l=>(.cells l e (0,0) true,fun i=> .pointer (some ⟨i,0,none⟩))
 |.buildSlice t len a=>
  match P.underlying t with
  |some (.slice e)=>
   match zeroOf P e with
   |some z=>
    if len*P.cellsOf e<=2^24 then
     (vE (fun i=>some (i*P.cellsOf e,P.cellsOf e)) (cS z len) (a.toList.map fun p=>(p.1,b p.2))).map fun l=>
      (.cells l e (0,0) true,fun i=> .slice (some ⟨i,0,none⟩) len len)
    else none
   |none=>none
  |_=>none
 |.makeSlice t l c=>match P.underlying t,b l,b c with
  |some (.slice e),.int _ l,.int _ c=>
   match zeroOf P e with
   |some z=>
    if 0<=l/\l<=c/\c<=2^40/\P.bytesOf e*c<=2^47 then
     some (.cells (cS z c.toNat) e (0,0) true,fun i=> .slice (some ⟨i,0,none⟩) l.toNat c.toNat)
    else none
   |none=>none
  |_,_,_=>none
 |.makeMap t r=>match r with
  |none=>some (.map [] 0,fun i=> .map (some i))
  |some x=>match P.underlying t,b x with
   |some (.map _ _),.int _ _=>some (.map [] 0,fun i=> .map (some i))
   |_,_=>none
 |_=>none
def wI (P:Program) (t:TypeId):Option TypeId:=
 match P.underlying t with
 |some (.map a elem)=>match P.underlying a with
  |some (.int _)=>some elem
  |_=>none
 |_=>none
def rF (k:IntKind) (n:Int):List (Value×Value×Nat)->Nat->Option (Option (Nat×Value))
 |[],_=>some none
 |(.int j m,v,_)::a,i=>if k=j then(if n=m then some (some (i,v)) else rF k n a (i+1)) else none
 |_::_,_=>none
def zeroV (P:Program) (t:TypeId):Option Value:=((P.info? t).bind (·.zero)).bind fun z=>if bU z then some z else none
def Sk (h:AH):Value->Option (List (Value×Value×Nat))
 |.map none=>some []
 |.map (some r)=>match h.get r with
  |some (.map a _)=>some a
  |_=>none
 |_=>none
def mD (P:Program) (h:AH) (t:TypeId) (x ix:Value) (ok:Bool):Option Value:=
 match wI P t,Sk h x,ix with
 |some e,some a,.int k n=>match rF k n a 0 with
  |some (some (_,v))=>some (if ok then .tuple ⟨[v,.bool true]⟩ else v)
  |some none=>(zeroV P e).map fun z=>if ok then .tuple ⟨[z,.bool false]⟩ else z
  |none=>none
 |_,_,_=>none
def fy (k:IntKind) (n:Int) (v:Value) (es:List (Value×Value×Nat)) (a:Nat):Option hZ:=
 match rF k n es 0 with
 |some (some (i,_))=>some (.map (es.modify i fun e=>(.int k n,v,e.2.2)) a)
 |some none=>some (.map (es++[(.int k n,v,a)]) (a+1))
 |none=>none
def rK (P:Program) (h:AH) (t:TypeId) (m b v:Value):Option AH:=
 match wI P t,m,b with
 |some _,.map (some r),.int k n=>if r<h.base then none else match h.get r with
  |some (.map c a)=>(fy k n v c a).map fun o=>h.set r (some o)
  |_=>none
 |_,_,_=>none
def uN (P:Program) (h:AH) (t:TypeId) (m c:Value):Option AH:=
 match wI P t,m,c with
 |some _,.map none,.int _ _=>some h
 |some _,.map (some r),.int k n=>if r<h.base then none else match h.get r with
  |some (.map b a)=>match rF k n b 0 with
   |some (some (i,_))=>some (h.set r (some (.map (b.eraseIdx i) a)))
   |some none=>some (h.set r (some (.map b a)))
   |none=>none
  |_=>none
 |_,_,_=>none
def byteOf:Value->Option UInt8
 |.int .u8 n=>some (UInt8.ofNat n.toNat)
 |_=>none
def qY:List Value->Option (List UInt8)
 |[]=>some []
 |v::l=>match byteOf v,qY l with
  |some b,some r=>some (b::r)
  |_,_=>none
def strOf (h:AH):Value->Option Value
 |.slice none _ _=>some (.string .empty)
 |.slice (some a) n _=>if n=0 then some (.string .empty) else((aT h a n).bind qY).map fun l=> .string ⟨⟨l⟩⟩
 |_=>none
def aH (P:Program) (g:Operand->Value) (h:AH):Op->Option Value
 |.move x=>some (g x)
 |.assign x=>some (g x)
 |.pick c a b=>match g c with
  |.bool t=>some (if t then g a else g b)
  |_=>none
 |.build t l=>wQ P t (l.toList.map fun p=>(p.1,g p.2))
 |.load t a=>match g a with
  |.pointer (some a)=>lS P h t a
  |_=>none
 |.nilCheck x=>match g x with
  |.pointer (some a)=>some (.pointer (some a))
  |.func (.func f) a b=>some (.func (.func f) a b)
  |.func (.yield f) a b=>some (.func (.yield f) a b)
  |_=>none
 |.binOp op t x y _=>E3 P op t x y (g x) (g y)
 |.unOp op _ x=>match op,g x with
  |.neg,.int k n=>some (.int k (k.wrap (0 - n)))
  |.not,.bool b=>some (.bool !b)
  |_,_=>none
 |.convert s d x=>match P.underlying s,P.underlying d,g x with
  |some _,some (.int k),.int _ n=>some (.int k (k.wrap n))
  |some .string,some .string,.string z=>some (.string z)
  |some (.slice e),some .string,v=>(match P.underlying e with
   |some (.int .u8)=>strOf h v
   |_=>none)
  |_,_,_=>none
 |.makeInterface t x=>match P.underlying t with
  |some (.interface _)=>none
  |some _=>some (.iface t (g x))
  |none=>none
 |.makeFunc q first j=>match q with
  |.func f=>some (.func (.func f) (first.map g) (j.map g))
  |_=>none
 |.slice t x u r A=>lQ P h t (g x) (u.map g) (r.map g) (A.map g)
 |.fieldAddr s x f=>match P.underlying s,g x with
  |some (.struct o),.pointer (some a)=>match o[f]? with
   |some fd=>if P.cellsOf fd.type=0 then none else some (.pointer (some (a.add fd.offset)))
   |none=>none
  |_,_=>none
 |.field t x f=>match P.underlying t,g x with
  |some (.struct o),.agg m=>match o[f]? with
   |some fd=>apart P fd.type m.toList fd.offset
   |none=>none
  |_,_=>none
 |.indexAddr t x i=>match P.underlying t,g x,g i with
  |some (.array n e),.pointer (some a),.int _ i=>if 0<=i/\i<n/\(P.info? e).isSome then some (.pointer (some (a.add (i.toNat*P.cellsOf e)))) else none
  |some (.slice e),.slice (some a) n _,.int _ i=>if 0<=i/\i<n/\(P.info? e).isSome/\a.spot=none then some (.pointer (some (a.add (i.toNat*P.cellsOf e)))) else none
  |_,_,_=>none
 |.index t x i=>match P.underlying t,g x,g i with
  |some (.array n e),.agg m,.int _ i=>if 0<=i/\i<n/\(P.info? e).isSome then apart P e m.toList (i.toNat*P.cellsOf e) else none
  |some .string,.string s,.int _ i=>if 0<=i then(s[i.toNat]?).map fun b=> .int .u8 b.toNat else none
  |_,_,_=>none
 |.extract t i=>match g t with
  |.tuple C=>C.toList[i]?
  |_=>none
 |.lookup t x ix ok=>mD P h t (g x) (g ix) ok
 |_=>none
inductive Kind where
 |pW|alloc|store|call|other
 deriving DecidableEq
def kindOf:Op->Kind
 |.move _|.assign _|.pick ..|.build ..|.load ..|.nilCheck _|.binOp ..|.unOp ..|.convert ..|.makeInterface ..|.makeFunc ..|.slice ..|.fieldAddr ..
 |.field ..|.indexAddr ..|.index ..|.extract ..|.lookup ..=> .pW
 |.alloc _|.box ..|.buildSlice ..|.makeSlice ..|.makeMap ..=> .alloc
 |.store ..|.mapUpdate ..=> .store
 |.call _=> .call
 |_=> .other
def dM (h:AH) (size n:Nat):Value->Option (List Value)
 |.slice none _ _=>if n=0 then some [] else none
 |.slice (some a) l _=>if n=0 then some [] else if n<=l then aT h a (n*size) else none
 |.string s=>if n<=s.size then some ((s.extract 0 n).data.toList.map fun b=> .int .u8 b.toNat) else none
 |_=>none
def pT:Value->Option Nat
 |.slice _ n _=>some n
 |.string s=>some s.size
 |_=>none
def yX (P:Program) (a:Array TypeId):Bool:=
 match(a[1]?).bind P.underlying with
 |some (.slice _)|some .string=>true
 |_=>false
def yH (P:Program) (h:AH) (d:Array TypeId) (s x:Value):Option (Value×AH):=
 match(d[0]?).bind P.underlying,s,pT x with
 |some (.slice e),.slice g b f,some n=>
  if !yX P d then none else
  match zeroOf P e,dM h (P.cellsOf e) n x with
  |some _,some new=>
   if !new.all cT||new.length !=n*P.cellsOf e then none else
   if b+n<=f then
    match g with
    |none=>if n=0 then some (s,h) else none
    |some a=>if n=0 then some (s,h) else if a.spot.isSome then none else
     (bL h (a.add (b*P.cellsOf e)) new).map fun l=>(.slice g (b+n) f,l)
   else if(b+n)*(P.bytesOf e+1)<=2^46 then
    match g with
    |none=>if b=0 then some (.slice (some ⟨h.next,0,none⟩) n n,h.alloc (.cells new e (0,0) false)) else none
    |some a=>
     if a.spot=some 1 then(if b=0 then some (.slice (some ⟨h.next,0,none⟩) n n,h.alloc (.cells new e (0,0) false)) else none) else
     if a.spot=some 2 then
      (match h.get a.block with
      |some (.cells c j k _)=>
       if j=e/\h.base<=a.block/\k=(0,0)/\a.off<=c.length/\b=0/\f=0 then
        some (.slice (some ⟨h.next,0,none⟩) n n,(h.set a.block none).alloc (.cells new e (0,0) false))
       else none
      |_=>none) else
     match aT h a (b*P.cellsOf e),h.get a.block with
     |some i,some (.cells c j k x)=>
      if !i.all cT then none else
      if x then some (.slice (some ⟨h.next,0,none⟩) (b+n) (b+n),h.alloc (.cells (i++new) e (0,0) false))
      else if j=e/\h.base<=a.block/\k=(0,0)/\a.off+f*P.cellsOf e<=c.length then
       some (.slice (some ⟨h.next,0,none⟩) (b+n) (b+n),(h.set a.block none).alloc (.cells (i++new) e (0,0) false))
      else none
     |_,_=>none
   else none
  |_,_=>none
 |_,_,_=>none
def bY (P:Program) (h:AH) (b:Builtin) (f:Array TypeId) (args:List Value):Option (Value×AH):=
 match b,args with
 |.len,[x]=>match(f[0]?).bind P.underlying,x with
  |some .string,.string s=>some (.int .i64 s.size,h)
  |some (.array n _),_=>some (.int .i64 n,h)
  |some (.pointer e),_=>match P.underlying e with
   |some (.array n _)=>some (.int .i64 n,h)
   |_=>none
  |some (.slice _),.slice _ n _=>some (.int .i64 n,h)
  |some (.map _ _),x=>(Sk h x).map fun l=>(.int .i64 l.length,h)
  |_,_=>none
 |.append,[s,x]=>yH P h f s x
 |.copy,[d,x]=>match(f[0]?).bind P.underlying,d,pT x with
  |some (.slice e),.slice i g _,some m=>
   if(P.info? e).isNone then none else
   match dM h (P.cellsOf e) (Nat.min m g) x with
   |some new=>match i with
    |none=>some (.int .i64 (Nat.min m g:Nat),h)
    |some a=>if Nat.min m g=0 then some (.int .i64 0,h) else(bL h a new).map fun j=>(.int .i64 (Nat.min m g:Nat),j)
   |none=>none
  |_,_,_=>none
 |.clear,[x]=>match(f[0]?).bind P.underlying,x with
  |some _,.slice none _ _=>some (.tuple #[],h)
  |some (.slice e),.slice (some a) n _=>
   if n=0 then some (.tuple #[],h) else
   match zeroOf P e with
   |some z=>(bL h a (cS z n)).map fun j=>(.tuple #[],j)
   |none=>none
  |_,_=>none
 |.delete,[m,k]=>match f[0]? with
  |some t=>(uN P h t m k).map fun j=>(.tuple #[],j)
  |none=>none
 |.min,[.int k x,.int _ y]=>some (.int k (if y<x then y else x),h)
 |.max,[.int k x,.int _ y]=>some (.int k (if y>x then y else x),h)
 |.cap,[x]=>match(f[0]?).bind P.underlying,x with
  |some (.slice _),.slice none _ c=>some (.int .i64 c,h)
  |_,_=>none
 |_,_=>none
end
end Go.Ab
end
section
namespace Go.Ab
open Go.RowKit
def Ext (ρ ρ':dR):Prop:=∀i x,ρ i=some x->ρ' i=some x
theorem Ext.refl (ρ:dR):Ext ρ ρ:=fun _ _ h=>h
theorem Ext.trans {a b c:dR} (h:Ext a b) (k:Ext b c):Ext a c:=fun i x d=>k i x (h i x d)
theorem uJ.mono {ρ ρ':dR} (h:Ext ρ ρ') {f g:Fn} (k:uJ ρ f g):uJ ρ' f g:=by
 cases f<;>simp only[uJ] at k ⊢<;>try exact k
 obtain⟨b,s,a,c⟩:=k;exact⟨b,s,h _ _ a,c⟩
mutual
theorem aA.mono {ρ ρ':dR} (h:Ext ρ ρ'):∀(v v':Value),aA ρ v v'->aA ρ' v v'
 |.bool _,_,k=>by simp only[aA] at k ⊢;exact k
 |.int _ _,_,k=>by simp only[aA] at k ⊢;exact k
 |.float _ _,_,k=>by simp only[aA] at k ⊢;exact k
 |.complex _ _ _,_,k=>by simp only[aA] at k ⊢;exact k
 |.string _,_,k=>by simp only[aA] at k ⊢;exact k
 |.pointer none,_,k=>by simp only[aA] at k ⊢;exact k
 |.pointer (some _),_,k=>by simp only[aA] at k ⊢;obtain⟨b,s,d,c⟩:=k;exact⟨b,s,h _ _ d,c⟩
 |.slice none _ _,_,k=>by simp only[aA] at k ⊢;exact k
 |.slice (some ⟨_,_,some _⟩) _ _,_,k=>by
  simp only[aA] at k ⊢;obtain⟨j,l,o,g,m,q,r⟩:=k;exact⟨j,l,o,g,m,fun x=>let⟨b,s,d,c⟩:=q x;⟨b,s,h _ _ d,c⟩,r⟩
 |.slice (some ⟨_,_,none⟩) _ _,_,k=>by simp only[aA] at k ⊢;obtain⟨b,s,g,d,c⟩:=k;exact⟨b,s,g,h _ _ d,c⟩
 |.map none,_,k=>by simp only[aA] at k ⊢;exact k
 |.map (some _),_,k=>by simp only[aA] at k ⊢;obtain⟨b,s,d,c⟩:=k;exact⟨b,s,h _ _ d,c⟩
 |.chan none,_,_=>by simp only[aA]
 |.chan (some _),_,k=>by simp only[aA] at k
 |.func _ p e,_,k=>by
  simp only[aA] at k ⊢;obtain⟨i,f,a,j,l,m,c⟩:=k;exact⟨i,f,a,j.mono h,fG.mono h p f l,fG.mono h e a m,c⟩
 |.nilFunc,_,k=>by simp only[aA] at k ⊢;exact k
 |.iface _ v,_,k=>by simp only[aA] at k ⊢;obtain⟨u,t,c⟩:=k;exact⟨u,aA.mono h v u t,c⟩
 |.nilIface,_,k=>by simp only[aA] at k ⊢;exact k
 |.agg e,_,k=>by simp only[aA] at k ⊢;obtain⟨a,n,c⟩:=k;exact⟨a,fG.mono h e a n,c⟩
 |.tuple e,_,k=>by simp only[aA] at k ⊢;obtain⟨a,n,c⟩:=k;exact⟨a,fG.mono h e a n,c⟩
theorem fG.mono {ρ ρ':dR} (h:Ext ρ ρ'):∀(v v':Array Value),fG ρ v v'->fG ρ' v v'
 |⟨l⟩,a,k=>by simp only[fG] at k ⊢;exact aC.mono h l a.toList k
theorem aC.mono {ρ ρ':dR} (h:Ext ρ ρ'):∀(l a:List Value),aC ρ l a->aC ρ' l a
 |[],_,k=>by simp only[aC] at k ⊢;exact k
 |v::l,_,k=>by
  simp only[aC] at k ⊢;obtain⟨c,b,d,e,f⟩:=k;exact⟨c,b,aA.mono h v c d,aC.mono h l b e,f⟩
end
mutual
theorem dB {ρ:dR}:∀(v:Value),bU v=true->aA ρ v v
 |.bool _,_=>by simp only[aA]
 |.int _ _,_=>by simp only[aA]
 |.float _ _,h=>by simp[bU] at h
 |.complex _ _ _,h=>by simp[bU] at h
 |.string _,_=>by simp only[aA]
 |.pointer none,_=>by simp only[aA]
 |.pointer (some _),h=>by simp[bU] at h
 |.slice none _ _,_=>by simp only[aA]
 |.slice (some _) _ _,h=>by simp[bU] at h
 |.map none,_=>by simp only[aA]
 |.map (some _),h=>by simp[bU] at h
 |.chan _,h=>by simp[bU] at h
 |.func _ _ _,h=>by simp[bU] at h
 |.nilFunc,_=>by simp only[aA]
 |.iface _ v,h=>by simp only[aA];simp only[bU] at h;exact⟨v,dB v h,rfl⟩
 |.nilIface,_=>by simp only[aA]
 |.agg a,h=>by simp only[aA];simp only[bU] at h;exact⟨a,A1 a h,rfl⟩
 |.tuple a,h=>by simp only[aA];simp only[bU] at h;exact⟨a,A1 a h,rfl⟩
theorem A1 {ρ:dR}:∀(v:Array Value),mU v=true->fG ρ v v
 |⟨l⟩,h=>by simp only[mU] at h;simp only[fG];exact gS l h
theorem gS {ρ:dR}:∀(l:List Value),iF l=true->aC ρ l l
 |[],_=>by simp only[aC]
 |v::l,h=>by
  simp only[iF,Bool.and_eq_true] at h;simp only[aC];exact⟨v,l,dB v h.1,gS l h.2,rfl⟩
end
theorem dY {ρ:dR} {a b:Array Value}:fG ρ a b↔aC ρ a.toList b.toList:=by cases a;simp only[fG]
section lists
variable {ρ:dR}
theorem aC.nil:aC ρ [] []:=by simp only[aC]
theorem aC.cons {v v':Value} {l a:List Value} (h:aA ρ v v') (k:aC ρ l a):aC ρ (v::l) (v'::a):=by
 simp only[aC];grind
theorem aC.He {v v':Value} {l a:List Value}:aC ρ (v::l) (v'::a)↔aA ρ v v'/\aC ρ l a:=by
 constructor;intro h;simp only[aC] at h;grind;exact fun h=>aC.cons h.1 h.2
theorem aC.length:∀{l a:List Value},aC ρ l a->a.length=l.length
 |[],a,h=>by simp only[aC] at h;simp[h]
 |v::l,a,h=>by
  simp only[aC] at h;obtain⟨d,c,_,b,rfl⟩:=h;simp[aC.length b]
theorem aC.get:∀{l a:List Value} {i:Nat} {v:Value},aC ρ l a->l[i]?=some v->∃b,a[i]?=some b/\aA ρ v b
 |[],a,i,v,h,k=>by simp at k
 |u::l,a,0,v,h,k=>by
  simp only[aC] at h;grind
 |u::l,a,i+1,v,h,k=>by
  simp only[aC] at h;obtain⟨b,d,_,c,rfl⟩:=h;simp at k;simpa using aC.get c k
theorem aC.get_none {l a:List Value} {i:Nat} (h:aC ρ l a) (k:l[i]?=none):a[i]?=none:=by
 rw[List.getElem?_eq_none_iff] at k ⊢;rw[h.length];exact k
theorem aC.getD {l a:List Value} (i:Nat) (h:aC ρ l a):aA ρ (l.getD i undef) (a.getD i undef):=by
 cases k:l[i]? with
 |none=>
  have b:=h.get_none k;rw[List.getD_eq_getElem?_getD,List.getD_eq_getElem?_getD,k,b];exact dB undef (by simp[undef,bU,mU,iF])
 |some v=>
  obtain⟨e,d,c⟩:=h.get k;grind
theorem aC.append:∀{l a m b:List Value},aC ρ l a->aC ρ m b->aC ρ (l++m) (a++b)
 |[],a,m,b,h,k=>by simp only[aC] at h;subst h;exact k
 |v::l,a,m,b,h,k=>by
  simp only[aC] at h;obtain⟨f,e,c,d,rfl⟩:=h;exact aC.cons c (aC.append d k)
theorem aC.take:∀{l a:List Value} (n:Nat),aC ρ l a->aC ρ (l.take n) (a.take n)
 |_,_,0,_=>by simp[aC.nil]
 |[],a,n+1,h=>by simp only[aC] at h;subst h;exact aC.nil
 |v::l,a,n+1,h=>by
  simp only[aC] at h;obtain⟨e,d,b,c,rfl⟩:=h;exact aC.cons b (aC.take n c)
theorem aC.drop:∀{l a:List Value} (n:Nat),aC ρ l a->aC ρ (l.drop n) (a.drop n)
 |_,_,0,h=>by simpa using h
 |[],a,n+1,h=>by simp only[aC] at h;subst h;exact aC.nil
 |v::l,a,n+1,h=>by
  simp only[aC] at h;obtain⟨e,d,c,b,rfl⟩:=h;exact aC.drop n b
theorem aC.set:∀{l a:List Value} (i:Nat) {v v':Value},aC ρ l a->aA ρ v v'->aC ρ (l.set i v) (a.set i v')
 |[],a,i,v,v',h,k=>by simp only[aC] at h;subst h;exact aC.nil
 |u::l,a,0,v,v',h,k=>by
  simp only[aC] at h;obtain⟨e,d,c,b,rfl⟩:=h;exact aC.cons k b
 |u::l,a,i+1,v,v',h,k=>by
  simp only[aC] at h;obtain⟨e,d,c,b,rfl⟩:=h;exact aC.cons c (aC.set i b k)
theorem aC.aQ {l a m b:List Value} (i:Nat) (h:aC ρ l a) (k:aC ρ m b):aC ρ (aQ l i m) (aQ a i b):=by
 unfold Ab.aQ;rw[k.length];exact((h.take i).append k).append (h.drop _)
theorem aC.replicate {v v':Value} (n:Nat) (h:aA ρ v v'):aC ρ (List.replicate n v) (List.replicate n v'):=by
 induction n with
 |zero=>exact aC.nil
 |succ n a=>exact aC.cons h a
theorem aC.sS {α:Type} {f g:α->Value} (h:∀x,aA ρ (f x) (g x)):∀l:List α,aC ρ (l.map f) (l.map g)
 |[]=>aC.nil
 |x::l=>aC.cons (h x) (aC.sS h l)
end lists
section qE
variable {ρ:dR}
theorem aA.cells {v v':Value} (h:aA ρ v v') (k:nJ v=false):aC ρ v.cells.toList v'.cells.toList:=by
 cases v with
 |agg n=>simp only[aA] at h;obtain⟨g,j,rfl⟩:=h;exact dY.1 j
 |chan r=>simp[nJ] at k
 |pointer a=>
  have d:=h;cases a with
  |none=>simp only[aA] at h;subst h;exact aC.cons d aC.nil
  |some a=>simp only[aA] at h;obtain⟨b,s,e,rfl⟩:=h;exact aC.cons d aC.nil
 |slice a l c=>
  have d:=h;cases a with
  |none=>simp only[aA] at h;subst h;exact aC.cons d aC.nil
  |some a=>
   obtain⟨i,o,sp⟩:=a;cases sp with
   |none=>simp only[aA] at h;obtain⟨b,s,f,e,_,_,rfl⟩:=h;exact aC.cons d aC.nil
   |some _=>simp only[aA] at h;obtain⟨_,_,m,f,_,_,rfl⟩:=h;exact aC.cons d aC.nil
 |map r=>
  have d:=h;cases r with
  |none=>simp only[aA] at h;subst h;exact aC.cons d aC.nil
  |some a=>simp only[aA] at h;obtain⟨b,s,e,rfl⟩:=h;exact aC.cons d aC.nil
 |func p a b=>have d:=h;simp only[aA] at h;obtain⟨_,_,_,_,_,_,rfl⟩:=h;exact aC.cons d aC.nil
 |iface t v=>have d:=h;simp only[aA] at h;obtain⟨_,_,rfl⟩:=h;exact aC.cons d aC.nil
 |tuple t=>have d:=h;simp only[aA] at h;obtain⟨_,_,rfl⟩:=h;exact aC.cons d aC.nil
 |_=>have d:=h;simp only[aA] at h;subst h;exact aC.cons d aC.nil
theorem aA.Gp {v v':Value} (h:aA ρ v v') (d:cT v=true):v'.oneCell'=true:=by
 cases v with
 |agg j=>simp[cT] at d
 |chan r=>simp[cT] at d
 |tuple t=>simp[cT] at d
 |pointer a=>cases a with
  |none=>simp only[aA] at h;subst h;rfl
  |some a=>simp only[aA] at h;obtain⟨b,s,e,rfl⟩:=h;rfl
 |slice a l c=>cases a with
  |none=>simp only[aA] at h;subst h;rfl
  |some a=>
   obtain⟨i,o,sp⟩:=a
   cases sp with
   |none=>simp only[aA] at h;obtain⟨b,s,f,e,_,_,rfl⟩:=h;rfl
   |some _=>simp only[aA] at h;obtain⟨_,_,g,f,_,_,rfl⟩:=h;rfl
 |map r=>cases r with
  |none=>simp only[aA] at h;subst h;rfl
  |some a=>simp only[aA] at h;obtain⟨b,s,e,rfl⟩:=h;rfl
 |func k a b=>simp only[aA] at h;obtain⟨_,_,_,_,_,_,rfl⟩:=h;rfl
 |iface t v=>simp only[aA] at h;obtain⟨_,_,rfl⟩:=h;rfl
 |_=>simp only[aA] at h;subst h;rfl
end qE
def fB (ρ:dR):List (Value×Value×Nat)->List MapEntry->Prop
 |[],a=>a=[]
 |(k,v,n)::l,a=>∃b c t,aA ρ k b/\aA ρ v c/\fB ρ l t/\a={key:=b,val:=c,born:=n}::t
theorem fB.mono {ρ ρ':dR} (h:Ext ρ ρ'):∀(l:List (Value×Value×Nat)) (es:List MapEntry),fB ρ l es->fB ρ' l es
 |[],_,k=>k
 |(_,_,_)::l,_,⟨e,f,t,a,b,c,d⟩=>⟨e,f,t,aA.mono h _ _ a,aA.mono h _ _ b,fB.mono h l t c,d⟩
def mB (P:Program) (ρ:dR) (s:Nat×Nat):hZ->Obj->Prop
 |.cells c e n x,o=>∃i:Array Value,o= .cells i e n/\aC ρ c ((i.toList.drop s.2).take c.length)/\s.2+c.length+s.1*P.cellsOf e<=i.size/\(x=true->s.1=0/\s.2=0/\i.size=c.length)
 |.loop st tD fn tmps params assign body d,o=>∃a k p,aC ρ tmps a/\ρ d=some (k,p)/\
   o= .loop {state:=st,pending:=tD,fn:=fn,tmps:=⟨a⟩,params:=params,assign:=assign,body:=body,defers:=k}
 |.marks here,o=>o= .deferred (if here then some [] else none)
 |.map l f,o=>∃g,fB ρ l g/\o= .map ⟨g⟩ f
 |.mapIter m since seen last,o=>∃j,(match m with|none=>j=none|some r=>∃b s,ρ r=some (b,s)/\j=some b)/\o= .mapIter j since ⟨seen⟩ last
 |.Oo s pos,o=>o= .stringIter s pos
theorem mB.mono {P:Program} {ρ ρ':dR} (h:Ext ρ ρ') {s:Nat×Nat} {b:hZ} {o:Obj} (k:mB P ρ s b o):mB P ρ' s b o:=by
 cases b with
 |cells c e D x=>obtain⟨n,a,f,i⟩:=k;exact⟨n,a,aC.mono h _ _ f,i⟩
 |loop st tD C l params assign j d=>obtain⟨z,q,y,a,f,i⟩:=k;exact⟨z,q,y,aC.mono h _ _ a,h _ _ f,i⟩
 |marks _=>exact k
 |map A c=>obtain⟨g,a,f⟩:=k;exact⟨g,fB.mono h _ _ a,f⟩
 |mapIter m _ _ _=>
  obtain⟨v,a,f⟩:=k;refine⟨v,?_,f⟩;cases m with
  |none=>exact a
  |some r=>obtain⟨b,s,t,u⟩:=a;exact⟨b,s,h _ _ t,u⟩
 |Oo s p=>exact k
structure Inv (P:Program) (B:Nat) (ρ:dR) (h:AH) (w:World):Prop where
 gH:∀i o,h.get i=some o->∀b s,ρ i=some (b,s)->∃o',w.heap[b]?=some o'/\mB P ρ s o o'
 inj:∀i j b si sj,h.base<=i->h.base<=j->(h.get i).isSome->(h.get j).isSome->ρ i=some (b,si)->ρ j=some (b,sj)->i=j
 low:∀i b s,h.base<=i->(h.get i).isSome->ρ i=some (b,s)->B<=b
 old:∀i b s,i<h.base->ρ i=some (b,s)->b<B
 fresh:∀i,h.next<=i->ρ i=none
 dF:∀i,h.next<=i->h.get i=none
 iN:∀g,g<P.globals.size->ρ g=some (g,(0,0))
 size:B<=w.heap.size
 bn:h.base<=h.next
structure fA (P:Program) (B:Nat) (ρ:dR) (h:AH) (w:World) (ρ':dR) (h':AH) (w':World):Prop where
 ext:Ext ρ ρ'
 inv:Inv P B ρ' h' w'
 un:∀i,i<h.next->ρ i=none->ρ' i=none
 gA:∀i,i<h.next->ρ i=none->h'.get i=h.get i
 stay:∀i,i<h.next->h.get i=none->h'.get i=none
 frame:∀b,b<w.heap.size->(∀i s,h.base<=i->(h.get i).isSome->ρ i≠some (b,s))->w'.heap[b]?=w.heap[b]?
 range:∀i b s,h.base<=i->(h'.get i).isSome->ρ' i=some (b,s)->b<w.heap.size->∃j s',h.base<=j/\(h.get j).isSome/\ρ j=some (b,s')
 base:h'.base=h.base
 nB:∀i,i<h.base->h'.get i=h.get i
 next:h.next<=h'.next
 size:w.heap.size<=w'.heap.size
 os:w'.os=w.os
 out:w'.output=w.output
 tape:w'.tape=w.tape
theorem fA.refl {P:Program} {B:Nat} {ρ:dR} {h:AH} {w:World} (d:Inv P B ρ h w):fA P B ρ h w ρ h w where
 ext:=Ext.refl ρ
 inv:=d
 un:=fun _ _ h=>h
 gA:=fun _ _ _=>rfl
 stay:=fun _ _ e=>e
 frame:=fun _ _ _=>rfl
 range:=fun i _ s a b c _=>⟨i,s,a,b,c⟩
 base:=rfl
 nB:=fun _ _=>rfl
 next:=Nat.le_refl _
 size:=Nat.le_refl _
 os:=rfl
 out:=rfl
 tape:=rfl
theorem fA.trans {P:Program} {B:Nat} {ρ ρ1 ρ2:dR} {h o p:AH} {w r t:World} (a:fA P B ρ h w ρ1 o r) (b:fA P B ρ1 o r ρ2 p t):fA P B ρ h w ρ2 p t where
 ext:=a.ext.trans b.ext
 inv:=b.inv
 un:=fun i c d=>b.un i (Nat.lt_of_lt_of_le c a.next) (a.un i c d)
 gA:=fun i c d=>(b.gA i (Nat.lt_of_lt_of_le c a.next) (a.un i c d)).trans (a.gA i c d)
 stay:=fun i c d=>b.stay i (Nat.lt_of_lt_of_le c a.next) (a.stay i c d)
 frame:=fun x f d=>by
  refine(b.frame x (Nat.lt_of_lt_of_le f a.size) ?_).trans (a.frame x f d);intro i s l n m;rw[a.base] at l;obtain⟨j,q,e,g,k⟩:=a.range i x s l n m f;grind
 range:=fun i x s l n m f=>by
  obtain⟨j,q,e,g,k⟩:=b.range i x s (by rw[a.base];exact l) n m (Nat.lt_of_lt_of_le f a.size);rw[a.base] at e;exact a.range j x q e g k f
 base:=b.base.trans a.base
 nB:=fun i c=>(b.nB i (by rw[a.base];exact c)).trans (a.nB i c)
 next:=Nat.le_trans a.next b.next
 size:=Nat.le_trans a.size b.size
 os:=b.os.trans a.os
 out:=b.out.trans a.out
 tape:=b.tape.trans a.tape
theorem fA.below {P:Program} {B:Nat} {ρ ρ':dR} {h h':AH} {w w':World} (a:Inv P B ρ h w) (e:fA P B ρ h w ρ' h' w'):Below B w w':=
 ⟨e.os,e.tape,e.out,e.size,fun k b=>e.frame k (Nat.lt_of_lt_of_le b a.size) fun i s c f d=>absurd (a.low i k s c f d) (Nat.not_le.2 b)⟩
end Go.Ab
end
namespace Go.Ab
open Go.RowKit
section
variable {P:Program} {B:Nat} {ρ:dR} {h:AH} {w:World}
def qH (ρ:dR) (i:Nat) (x:Nat×(Nat×Nat)):dR:=fun j=>if j=i then some x else ρ j
theorem aX {i:Nat} {x:Nat×(Nat×Nat)}:qH ρ i x i=some x:=by simp[qH]
theorem aJ {i j:Nat} {x:Nat×(Nat×Nat)} (h:j≠i):qH ρ i x j=ρ j:=by simp[qH,h]
theorem Ext.qH {i:Nat} {x:Nat×(Nat×Nat)} (h:ρ i=none):Ext ρ (qH ρ i x):=by
 intro j y a;by_cases e:j=i;grind;rw[aJ e];exact a
theorem rL (c:Inv P B ρ h w) {o:hZ} {o':Obj} {s:Nat×Nat} {w':World} (hb:mB P (qH ρ h.next (w.heap.size,s)) s o o')
  (m:w'.heap=w.heap.push o') (D:w'.os=w.os) (v:w'.output=w.output) (r:w'.tape=w.tape):
  fA P B ρ h w (qH ρ h.next (w.heap.size,s)) (h.alloc o) w':=by
 have l:Ext ρ (qH ρ h.next (w.heap.size,s)):=Ext.qH (c.fresh _ (Nat.le_refl _))
 have a:∀j,(h.alloc o).get j=if j=h.next then some o else h.get j:=fun j=>AH.nI c.bn
 have L:∀i b H,ρ i=some (b,H)->i<h.next:=fun i b H n=>by
  rcases Nat.lt_or_ge i h.next with y|y
  exact y;rw[c.fresh i y] at n;cases n
 refine {ext:=l,inv:=?_,un:=?_,gA:=?_,stay:=fun j Q t=>by grind,frame:=?_,range:=?_,base:=rfl,nB:=?_,next:=by simp,size:=by rw[m];simp,os:=D,out:=v,tape:=r}
 .refine {gH:=?_,inj:=?_,low:=?_,old:=?_,fresh:=?_,dF:=?_,iN:=?_,size:=by rw[m];simp;exact Nat.le_succ_of_le c.size,bn:=Nat.le_succ_of_le c.bn}
  .intro i M q b s1 n;rw[a] at q;by_cases e:i=h.next
   .subst e;rw[tu rfl] at q;cases q;rw[aX] at n;grind
   .rw[tt e] at q;rw[aJ e] at n;obtain⟨E,F,K⟩:=c.gH i M q b s1 n;refine⟨E,?_,K.mono l⟩;grind
  .intro i j b I J f z k u d x;rw[a] at k u;by_cases e:i=h.next
   .by_cases p:j=h.next
    .rw[e,p]
    .rw[tt p] at u;rw[aJ p] at x;obtain⟨O,C⟩:=Option.isSome_iff_exists.1 u;obtain⟨E,F,_⟩:=c.gH j O C b J x;subst e;rw[aX] at d;grind
   .rw[tt e] at k;rw[aJ e] at d;by_cases p:j=h.next
    .obtain⟨N,A⟩:=Option.isSome_iff_exists.1 k;obtain⟨E,F,_⟩:=c.gH i N A b I d;subst p;rw[aX] at x;grind
    .rw[tt p] at u;rw[aJ p] at x;exact c.inj i j b I J f z k u d x
  .intro i b s1 f k d;rw[a] at k;by_cases e:i=h.next
   .subst e;rw[aX] at d;cases d;exact c.size
   .rw[tt e] at k;rw[aJ e] at d;exact c.low i b s1 f k d
  .intro i b s1 f d;have e:i≠h.next:=fun e=>by have:=c.bn;simp at f;omega
   rw[aJ e] at d
   exact c.old i b s1 f d
  .intro i t;simp at t;rw[aJ (by omega)];exact c.fresh i (by omega)
  .intro i t;simp at t;rw[a,aab];exact c.dF i (by omega)
  .intro g q;have:=c.iN g q;exact l _ _ this
 .intro i t n;rw[aJ (by omega)];exact n
 .grind
 .grind
 .intro i b s1 f k d G;rw[a] at k;by_cases e:i=h.next
  .subst e;rw[aX] at d;cases d;omega
  .rw[tt e] at k;rw[aJ e] at d;grind
 .intro i t;rw[a,tt (by have:=c.bn;omega)]
theorem mJ (d:Inv P B ρ h w) {i b:Nat} {s:Nat×Nat} {F o:hZ} {o':Obj} {w':World} (p:h.base<=i) (t:h.get i=some F) (C:ρ i=some (b,s)) (hb:mB P ρ s o o')
  (f:w'.heap=w.heap.setIfInBounds b o') (A:w'.os=w.os) (u:w'.output=w.output) (q:w'.tape=w.tape):
  fA P B ρ h w ρ (h.set i (some o)) w':=by
 have n:∀j,(h.set i (some o)).get j=if j=i then some o else h.get j:=fun j=>AH.dO p
 have c:∀j,((h.set i (some o)).get j).isSome->(h.get j).isSome:=fun j a=>by
  grind
 obtain⟨R,z,_⟩:=d.gH i F t b s C
 have I:b<w.heap.size:=(Array.getElem?_eq_some_iff.1 z).1
 have J:i<h.next:=by
  rcases Nat.lt_or_ge i h.next with v|v
  exact v;rw[d.dF i v] at t;cases t
 refine {ext:=Ext.refl _,inv:=?_,un:=fun _ _ h=>h,gA:=?_,stay:=fun j a Q=>by grind,frame:=?_,range:=?_,base:=AH.Be,nB:=?_,next:=by simp,size:=by rw[f];simp,os:=A,out:=u,tape:=q}
 .refine {gH:=?_,inj:=?_,low:=?_,old:=?_,fresh:=?_,dF:=?_,iN:=d.iN,size:=by rw[f];simp;exact d.size,bn:=by simp;exact d.bn}
  .intro j M m D l g;rw[n] at m;by_cases e:j=i
   .grind
   .rw[tt e] at m;obtain⟨L,O,H⟩:=d.gH j M m D l g;refine⟨L,?_,H⟩;have K:b≠D:=by
     intro y;subst y;rcases Nat.lt_or_ge j h.base with x|x;have:=d.old j b l x g;have:=d.low i b s p (by rw[t];rfl) C;omega;exact e (d.inj j i b l s x p (by rw[m];rfl) (by rw[t];rfl) g C)
    grind
  .intro j k r l sk a E m G g N;simp at a E;exact d.inj j k r l sk a E (c j m) (c k G) g N
  .intro j r l a m g;simp at a;exact d.low j r l a (c j m) g
  .intro j r l a g;simp at a;exact d.old j r l a g
  .intro j a;simp at a;exact d.fresh j a
  .intro j a;simp at a;rw[n,aab];exact d.dF j a
 .grind
 .grind
 .grind
 grind
theorem I3 (d:Inv P B ρ h w) {i b:Nat} {s s':Nat×Nat} {Q o:hZ} {o':Obj} {w':World} (t:h.base<=i) (A:h.get i=some Q) (L:ρ i=some (b,s)) (hb:mB P (qH ρ h.next (b,s')) s' o o')
  (u:w'.heap=w.heap.setIfInBounds b o') (K:w'.os=w.os) (D:w'.output=w.output) (v:w'.tape=w.tape):
  fA P B ρ h w (qH ρ h.next (b,s')) ((h.set i none).alloc o) w':=by
 have n:Ext ρ (qH ρ h.next (b,s')):=Ext.qH (d.fresh _ (Nat.le_refl _))
 have l:∀j,((h.set i none).alloc o).get j=if j=h.next then some o else if j=i then none else h.get j:=fun j=>by
  rw[AH.nI (by simp;exact d.bn),AH.dO t];simp
 obtain⟨Z,J,_⟩:=d.gH i Q A b s L
 have S:b<w.heap.size:=(Array.getElem?_eq_some_iff.1 J).1
 have U:i<h.next:=by
  rcases Nat.lt_or_ge i h.next with E|E
  exact E;rw[d.dF i E] at A;cases A
 have G:=d.low i b s t (by rw[A];rfl) L
 have p:∀j x c,j≠h.next->((h.set i none).alloc o).get j≠none->ρ j=some (x,c)->(h.get j).isSome/\j≠i/\b≠x:=by
  intro j x c e m a;rw[l,tt e] at m;by_cases z:j=i;grind;rw[tt z] at m;have O:(h.get j).isSome:=by cases T:h.get j with|none=>exact absurd T m|some _=>rfl
  refine⟨O,z,?_⟩;intro H;subst H;rcases Nat.lt_or_ge j h.base with F|F;have:=d.old j b c F a;omega;exact z (d.inj j i b c s F t O (by rw[A];rfl) a L)
 refine {ext:=n,inv:=?_,un:=?_,gA:=?_,stay:=fun j f N=>by grind,frame:=?_,range:=?_,base:=by simp,nB:=?_,next:=by simp,size:=by rw[u];simp,os:=K,out:=D,tape:=v}
 .refine {gH:=?_,inj:=?_,low:=?_,old:=?_,fresh:=?_,dF:=?_,iN:=fun g I=>n _ _ (d.iN g I),size:=by grind,bn:=by simp;grind}
  .intro j W m x c a;by_cases e:j=h.next
   .subst e;rw[l,tu rfl] at m;cases m;rw[aX] at a;grind
   .rw[aJ e] at a;obtain⟨_,z,C⟩:=p j x c e (by rw[m];simp) a;rw[l,tt e,tt z] at m;obtain⟨V,Y,R⟩:=d.gH j W m x c a;exact⟨V,by grind,R.mono n⟩
  .intro j k q c sk f M m X a y;simp at f M;by_cases e:j=h.next
   .by_cases r:k=h.next
    .rw[e,r]
    .rw[aJ r] at y;obtain⟨_,_,C⟩:=p k q sk r (by grind) y;subst e;rw[aX] at a;grind
   .rw[aJ e] at a;obtain⟨s1,_,C⟩:=p j q c e (by grind) a;by_cases r:k=h.next
    .subst r;rw[aX] at y;grind
    .rw[aJ r] at y;obtain⟨s2,_,_⟩:=p k q sk r (by grind) y;exact d.inj j k q c sk f M s1 s2 a y
  .intro j q c f m a;simp at f;by_cases e:j=h.next
   .subst e;rw[aX] at a;cases a;exact G
   .rw[aJ e] at a;obtain⟨s1,_,_⟩:=p j q c e (by grind) a;exact d.low j q c f s1 a
  .intro j q c f a;simp at f;have e:j≠h.next:=by have:=d.bn;omega
   rw[aJ e] at a
   exact d.old j q c f a
  .intro j f;simp at f;rw[aJ (by omega)];exact d.fresh j (by omega)
  .intro j f;simp at f;rw[l,aab,aab];exact d.dF j (by omega)
 .intro j f N;rw[aJ (by omega)];exact N
 .grind
 .grind
 .intro j q c f m a _;by_cases e:j=h.next
  .subst e;rw[aX] at a;grind
  .rw[aJ e] at a;grind
 grind
theorem cF (b o n:Nat):Addr.add ⟨b,o,none⟩ n=⟨b,o+n,none⟩:=by
 unfold Addr.add;grind
theorem mY {b e o:Nat} {c:Array Value} {fz:Nat×Nat} (hb:w.heap[b]?=some (.cells c e fz)):w.cell? ⟨b,o,none⟩=c[o]?:=by
 simp[World.cell?,hb]
theorem jF (p:Inv P B ρ h w) {a:Addr} {b n:Nat} {s:Nat×Nat} {l:List Value} (r:ρ a.block=some (b,s)) (d:aT h a n=some l):
  ∃k,(loadCells ⟨b,a.off+s.2,none⟩ n).run P w= .ok ⟨k⟩ w/\aC ρ l k/\a.spot=none/\l.length=n:=by
 unfold aT at d
 cases hs:a.spot with
 |some x=>simp[hs] at d
 |none=>
  simp only[hs,Option.isSome_none,Bool.false_eq_true,if_false] at d
  split at d
  .rename_i c e u x o;split at d
   .rename_i hle;cases d;obtain⟨A,q,f,rfl,g,t,_⟩:=p.gH _ _ o b s r;have i:=g.length;have m:(f.toList.drop s.2).length=f.size - s.2:=by simp
    refine⟨(((f.toList.drop s.2).take c.length).drop a.off).take n,?_,(g.drop _).take _,rfl,by simp;omega⟩
    have z:((((f.toList.drop s.2).take c.length).drop a.off).take n).length=n:=by
     grind
    have:=run_loadCells_list (P:=P) (w:=w) ⟨b,a.off+s.2,none⟩ ((((f.toList.drop s.2).take c.length).drop a.off).take n) (fun j v y=>by
     rw[cF,mY q];grind)
    grind
   .cases d
  .cases d
theorem iO {b e:Nat} {fz:Nat×Nat} (l:fz.2=0):∀(vs:List Value) (w:World) (c:Array Value) (a i:Nat),w.heap[b]?=some (.cells c e fz)->(∀v∈vs,v.oneCell'=true)->a+i+vs.length<=c.size->
  ∃f,(storeCells ⟨b,a,none⟩ vs i).run P w= .ok () f/\f.heap=w.heap.setIfInBounds b (.cells ⟨aQ c.toList (a+i) vs⟩ e fz)/\f.os=w.os/\f.output=w.output/\f.tape=w.tape
 |[],w,c,a,i,k,_,_=>by
  refine⟨w,by simp[storeCells],?_,rfl,rfl,rfl⟩;simp only[aQ,List.append_nil,List.length_nil,Nat.add_zero,List.take_append_drop];obtain⟨d,m⟩:=Array.getElem?_eq_some_iff.1 k;apply Array.ext_getElem?;intro j;by_cases g:b=j;subst g;simp[d,m];grind
 |v::vs,w,c,a,i,k,q,o=>by
  simp only[List.length_cons] at o;have x:w.cell? ⟨b,a+i,none⟩=some c[a+i]:=by rw[mY k];grind
  have y:w.frozen? ⟨b,a+i,none⟩=false:=by simp[World.frozen?,k,l]
  have n:(w.setCell ⟨b,a+i,none⟩ v).heap[b]?=some (.cells (c.setIfInBounds (a+i) v) e fz):=by
   simp[World.setCell,Array.getElem?_modify,k]
  obtain⟨f,z,r,s,p,t⟩:=iO l vs (w.setCell ⟨b,a+i,none⟩ v) (c.setIfInBounds (a+i) v) a (i+1) n (fun u p=>q u (List.mem_cons_of_mem _ p)) (by simp;omega);refine⟨f,?_,?_,s,p,t⟩;simp only[storeCells,Sem.run_bind];rw[cF,run_store P w _ v _ (q v List.mem_cons_self)];simp_all;rw[r];apply Array.ext_getElem?;intro j;by_cases g:b=j;subst g;have d:=(Array.getElem?_eq_some_iff.1 k).1;simp only[World.setCell];rw[Array.getElem?_setIfInBounds_self,Array.getElem?_setIfInBounds_self];simp only[Array.size_modify,d,if_true];congr 2;apply Array.ext';simp only[aQ,Array.toList_setIfInBounds,List.length_cons];rw[show a+(i+1)=a+i+1 by omega,List.take_succ_eq_append_getElem (by simp;omega)];simp only[List.getElem_set_self,List.append_assoc,List.nil_append,List.take_set_of_le (Nat.le_refl _),List.cons_append];rw[List.drop_set_of_lt (by omega),show a+i+1+vs.length=a+i+(vs.length+1) by omega];rw[Array.getElem?_setIfInBounds_ne g,Array.getElem?_setIfInBounds_ne g];simp[World.setCell,Array.getElem?_modify,g]
theorem rO (J:Inv P B ρ h w) {a:Addr} {b:Nat} {s:Nat×Nat} {vs d:List Value} {h':AH} (K:ρ a.block=some (b,s)) (i:bL h a vs=some h') (F:aC ρ vs d):
  ∃C,(storeCells ⟨b,a.off+s.2,none⟩ d).run P w= .ok () C/\fA P B ρ h w ρ h' C/\a.spot=none:=by
 unfold bL at i
 split at i
 .cases i
 rename_i f
 simp only[Bool.or_eq_true,not_or,Bool.not_eq_true,decide_eq_false_iff_not,Bool.not_eq_false'] at f
 obtain⟨⟨z,l⟩,p⟩:=f
 have z:a.spot=none:=by cases U:a.spot with|none=>rfl|some _=>rw[U] at z;cases z
 split at i
 .rename_i c e R x I;split at i
  .rename_i hle;cases i;obtain⟨o',W,g,rfl,H,X,A⟩:=J.gH _ _ I b s K;have k:=H.length;have Y:=F.length;have r:∀v∈d,v.oneCell'=true:=by
    intro v G;obtain⟨j,V⟩:=List.getElem?_of_mem G;have q:j<vs.length:=by
     grind
    obtain⟨u,L,E⟩:=F.get (List.getElem?_eq_getElem q);rw[V] at L;cases L;exact E.Gp (List.all_eq_true.1 p _ (List.getElem_mem q))
   simp only[List.length_take] at k
   obtain⟨C,y,m,D,t,n⟩:=iO (P:=P) hle.1 d w g (a.off+s.2) 0 W r (by simp at k ⊢;omega)
   refine⟨C,y,mJ J (Nat.not_lt.1 l) I K (o:= .cells (aQ c a.off vs) e R x) ⟨_,rfl,?_,?_,fun h=>⟨(A h).1,(A h).2.1,by
    have S:=(A h).2.2;show(aQ g.toList (a.off+s.2+0) d).length=(aQ c a.off vs).length;have Z:g.toList.length=c.length:=by simpa using S
    have h5:=(A h).2.1;unfold aQ;simp only[List.length_append,List.length_take,List.length_drop];omega⟩⟩ m D t n,z⟩
   .have:((aQ g.toList (a.off+s.2+0) d).drop s.2).take (aQ c a.off vs).length=aQ ((g.toList.drop s.2).take c.length) a.off d:=by
     have T:(aQ g.toList (a.off+s.2+0) d).drop s.2=aQ (g.toList.drop s.2) a.off d:=by
      unfold aQ;simp only[Nat.add_zero];rw[List.append_assoc,List.drop_append_of_le_length (by simp;omega),List.drop_take,List.drop_drop,List.append_assoc];rw[show a.off+s.2 - s.2=a.off by omega,show s.2+(a.off+d.length)=a.off+s.2+d.length by omega]
     rw[T];unfold aQ;rw[List.take_append,List.take_append];simp only[List.length_append,List.length_take,List.length_drop,List.take_take];have M:min a.off c.length=a.off:=by omega
     have N:a.off+vs.length+(c.length - (a.off+vs.length))=c.length:=by omega
     rw[M,N];have O:min c.length a.off=a.off:=by omega
     have Q:min a.off (g.toList.length - s.2)=a.off:=by grind
     rw[O,Q];congr 1;congr 1;rw[List.take_of_length_le (by omega)];grind
    show aC ρ _ (((aQ g.toList (a.off+s.2+0) d).drop s.2).take (aQ c a.off vs).length)
    rw[this]
    exact H.aQ _ F
   .simp only[aQ,List.length_append,List.length_take,List.length_drop] at*;grind
  .cases i
 .cases i
end
section
variable {P:Program} {B:Nat} {ρ:dR} {h:AH} {w:World}
theorem Cp {t:TypeId} (a:P.cellsOf t≠0):∃i,P.info? t=some i/\i.size=P.cellsOf t:=by
 unfold Program.cellsOf at a ⊢;cases hi:P.info? t with
 |none=>simp[hi] at a
 |some i=>grind
theorem cU {t:TypeId} {i:TypeInfo} (a:P.info? t=some i):(sizeOf t).run P w= .ok (P.cellsOf t) w:=by
 simp[sizeOf,typeInfo,a,Program.cellsOf]
theorem xZ {t:TypeId} {d:TypeDesc} (a:P.underlying t=some d):∃i,P.info? t=some i:=by
 unfold Program.underlying at a;grind
theorem yI {t:TypeId} {b:Bool} (hb:eF P t=some b):(isAgg t).run P w= .ok b w:=by
 unfold eF at hb;cases hd:P.underlying t with
 |none=>simp[hd] at hb
 |some d=>
  rw[hd] at hb;simp only[Option.map_some,Option.some.injEq] at hb;unfold isAgg;simp only[Sem.run_bind,run_underlying hd,Result.andThen_ok];subst hb;cases d<;>rfl
theorem H3 {t:TypeId} {b:Bool} (hb:eF P t=some b):∃i,P.info? t=some i:=by
 unfold eF at hb;cases hd:P.underlying t with
 |none=>simp[hd] at hb
 |some d=>exact xZ hd
theorem lG {e:TypeId} {z:List Value} (a:zeroOf P e=some z):
  ∃i b,P.info? e=some i/\i.zero=some b/\(zeroValue e).run P w= .ok b w/\b.cells.toList=z/\z.length=P.cellsOf e/\(∀ρ:dR,aC ρ z z):=by
 unfold zeroOf at a
 cases hi:P.info? e with
 |none=>simp[hi] at a
 |some i=>
  cases hz0:i.zero with
  |none=>simp[hi,hz0] at a
  |some b=>
   simp only[hi,hz0,Option.bind_some] at a
   split at a
   .rename_i c;simp only[Bool.and_eq_true,beq_iff_eq] at c;cases a;refine⟨i,b,rfl,hz0,by simp[zeroValue,typeInfo,hi,hz0],rfl,by simpa using c.2,fun ρ=>?_⟩;have d:=dB (ρ:=ρ) b c.1.1;exact d.cells (by cases b<;>first|rfl|simp[bU] at c)
   .cases a
theorem oH {t:TypeId} {cs d:List Value} {c:Nat} {v:Value} (a:apart P t cs c=some v) (g:aC ρ cs d):
  ∃e,(part t ⟨d⟩ c).run P w= .ok e w/\aA ρ v e:=by
 unfold apart at a
 cases hb:eF P t with
 |none=>simp[hb] at a
 |some b=>
  obtain⟨i,j⟩:=H3 hb
  rw[hb] at a
  cases b with
  |true=>
   simp only at a
   split at a
   .cases a;refine⟨.agg ⟨(d.drop c).take (P.cellsOf t)⟩,?_,?_⟩
    .simp only[part,Sem.run_bind,yI hb,Result.andThen_ok,if_true,cU j,Sem.run_pure];grind
    .simp only[aA];exact⟨_,by simp only[fG];exact(g.drop c).take _,rfl⟩
   .cases a
  |false=>
   simp only at a
   obtain⟨e,f,k⟩:=g.get a
   refine⟨e,?_,k⟩
   simp only[part,Sem.run_bind,yI hb,Result.andThen_ok]
   simp[f]
theorem Bp (r:Inv P B ρ h w) {t:TypeId} {a:Addr} {p v:Value} (q:aA ρ (.pointer (some a)) p) (f:lS P h t a=some v):
  ∃o,(Instr.loadAt t p).run P w= .ok o w/\aA ρ v o:=by
 simp only[aA] at q
 obtain⟨b,s,u,rfl⟩:=q
 unfold lS at f
 cases hb:eF P t with
 |none=>simp[hb] at f
 |some x=>
  obtain⟨i,m⟩:=H3 hb
  rw[hb] at f
  cases x with
  |true=>
   simp only[Option.map_eq_some_iff] at f
   obtain⟨l,C,rfl⟩:=f
   obtain⟨F,n,d,k,_⟩:=jF r u C
   refine⟨.agg ⟨F⟩,?_,?_⟩
   .rw[k];simp only[Instr.loadAt,Instr.sureAddr,loadVar,Sem.run_bind,Sem.run_pure,Result.andThen_ok,yI hb,if_true,cU m,n]
   .simp only[aA];exact⟨_,by simp only[fG];exact d,rfl⟩
  |false=>
   simp only at f
   split at f
   .cases f
   .rename_i k;have k:a.spot=none:=by cases A:a.spot with|none=>rfl|some _=>rw[A] at k;exact absurd rfl k
    split at f
    .rename_i c e H x z;obtain⟨I,D,G,rfl,y,E,_⟩:=r.gH _ _ z b s u;obtain⟨o,g,d⟩:=y.get f;refine⟨o,?_,d⟩;have j:w.cell? ⟨b,a.off+s.2,none⟩=some o:=by
      rw[mY D];rw[List.getElem?_take] at g;split at g;rw[List.getElem?_drop] at g;rw[Nat.add_comm];simpa using g;cases g
     rw[k]
     simp only[Instr.loadAt,Instr.sureAddr,loadVar,Sem.run_bind,Sem.run_pure,Result.andThen_ok,yI hb]
     simp[j]
    .cases f
theorem Jk (q:Inv P B ρ h w) {t:TypeId} {a:Addr} {l v v':Value} {h':AH} (m:aA ρ (.pointer (some a)) l) (u:aA ρ v v') (f:Bl P h t a v=some h'):
  ∃k,(Instr.storeAt t l v').run P w= .ok () k/\fA P B ρ h w ρ h' k:=by
 simp only[aA] at m
 obtain⟨b,s,r,rfl⟩:=m
 unfold Bl dS at f
 cases ht:nJ v with
 |true=>simp[ht] at f
 |false=>
  simp only[ht,Bool.false_eq_true,if_false] at f
  split at f
  .rename_i p;obtain⟨n,d⟩:=p;obtain⟨i,j⟩:=Option.isSome_iff_exists.1 d;have c:=u.cells ht;obtain⟨k,o,g,e⟩:=rO q r f c;refine⟨k,?_,g⟩;rw[e];have x:=c.length;simp only[Instr.storeAt,Instr.sureAddr,storeVar,Sem.run_bind,Sem.run_pure,Result.andThen_ok,cU j];grind
  .cases f
def C1 (ρ:dR):List (Nat×Value)->List (Nat×Value)->Prop
 |[],l=>l=[]
 |(i,v)::l,b=>∃a t,aA ρ v a/\C1 ρ l t/\b=(i,a)::t
theorem xU:∀(vs:List Value) (c:Array Value) (a i:Nat),a+i+vs.length<=c.size->
  ((vs.zipIdx i).foldl (fun d (x:Value×Nat)=>d.setIfInBounds (a+x.2) x.1) c)=⟨aQ c.toList (a+i) vs⟩
 |[],c,a,i,_=>by
  apply Array.ext';simp[aQ]
 |v::vs,c,a,i,b=>by
  simp only[List.length_cons] at b;simp only[List.zipIdx_cons,List.foldl_cons];rw[xU vs (c.setIfInBounds (a+i) v) a (i+1) (by simp;omega)];congr 1;simp only[aQ,Array.toList_setIfInBounds,List.length_cons];rw[show a+(i+1)=a+i+1 by omega,List.take_succ_eq_append_getElem (by simp;omega)];simp only[List.getElem_set_self,List.append_assoc,List.nil_append,List.take_set_of_le (Nat.le_refl _),List.cons_append];rw[List.drop_set_of_lt (by omega),show a+i+1+vs.length=a+i+(vs.length+1) by omega]
theorem tP {place:Nat->Option (Nat×Nat)}:∀(b parts':List (Nat×Value)) (cells a r:List Value),C1 ρ b parts'->aC ρ cells a->vE place cells b=some r->
  ∃m,Instr.fill place ⟨a⟩ parts'=some ⟨m⟩/\aC ρ r m
 |[],parts',cells,a,r,f,l,e=>by
  simp only[C1] at f;subst f;simp only[vE,Option.some.injEq] at e;subst e;exact⟨a,rfl,l⟩
 |(i,v)::b,parts',cells,a,r,f,l,e=>by
  simp only[C1] at f;obtain⟨y,t,x,u,rfl⟩:=f;simp only[vE] at e;split at e;rename_i k size z n d;unfold dS at d;split at d;cases d;rename_i j;cases d;split at e;rename_i p;have c:=x.cells (by simpa using j);have s:=c.length;have q:=l.length;obtain⟨m,o,g⟩:=tP b t _ _ r u (l.aQ k c) e;refine⟨m,?_,g⟩;simp only[Instr.fill,n];simp only[Array.length_toList] at s p;rw[tt];rw[<-Array.foldl_toList,Array.toList_zipIdx];rw[xU y.cells.toList ⟨a⟩ k 0 (by simp;omega)];simpa using o;grind;cases e;cases e
theorem C1.map {α:Type} {f g:α->Value} {k:α->Nat} (a:∀x,aA ρ (f x) (g x)):∀l:List α,C1 ρ (l.map fun p=>(k p,f p)) (l.map fun p=>(k p,g p))
 |[]=>rfl
 |x::l=>⟨g x,_,a x,C1.map a l,rfl⟩
theorem B0:∀(fs:List Field),(∀f∈fs,(P.info? f.type).isSome)->
  (fs.mapM (m:=Sem) fun f=>do pure (f.offset,<-sizeOf f.type)).run P w= .ok (fs.map fun f=>(f.offset,P.cellsOf f.type)) w
 |[],_=>by simp
 |f::fs,a=>by
  obtain⟨i,c⟩:=Option.isSome_iff_exists.1 (a f List.mem_cons_self);simp only[List.mapM_cons,Sem.run_bind,cU c,Result.andThen_ok,Sem.run_pure,B0 fs (fun g b=>a g (List.mem_cons_of_mem _ b)),List.map_cons]
theorem Jx {t:TypeId} {a:List (Nat×Value)} {parts':Array (Nat×Value)} {v:Value} (D:C1 ρ a parts'.toList) (c:wQ P t a=some v):
  ∃E,(Instr.build t parts').run P w= .ok E w/\aA ρ v E:=by
 unfold wQ at c
 split at c
 .rename_i z q y r;obtain⟨i,C,_,_,j,g,_,k⟩:=lG (w:=w) y;split at c
  .rename_i o;simp only[Option.map_eq_some_iff] at c;obtain⟨l,u,rfl⟩:=c;obtain⟨A,p,b⟩:=tP a parts'.toList z z l D (k ρ) u;refine⟨.agg ⟨A⟩,?_,by simp only[aA];exact⟨_,by simp only[fG];exact b,rfl⟩⟩;have d:C.cells=⟨z⟩:=by rw[<-g]
   have x:(q.mapM (m:=Sem) fun f=>do pure (f.offset,<-sizeOf f.type)).run P w= .ok (q.map fun f=>(f.offset,P.cellsOf f.type)) w:=by
    rw[Array.mapM_eq_mapM_toList];simp only[Sem.run_map];rw[B0 q.toList (fun f G=>by
     have:=Array.all_eq_true'.1 o f (by simpa using G);exact this)]
    simp only[Result.andThen_ok,Result.ok.injEq,and_true];grind
   simp only[Instr.build,Sem.run_bind,j,Result.andThen_ok,run_underlying r,x,d]
   simp_all
  .cases c
 .rename_i z n e y r;obtain⟨i,C,_,_,j,g,_,k⟩:=lG (w:=w) y;split at c
  .rename_i F;obtain⟨H,s⟩:=Option.isSome_iff_exists.1 F;simp only[Option.map_eq_some_iff] at c;obtain⟨l,u,rfl⟩:=c;obtain⟨A,p,b⟩:=tP a parts'.toList z z l D (k ρ) u;refine⟨.agg ⟨A⟩,?_,by simp only[aA];exact⟨_,by simp only[fG];exact b,rfl⟩⟩;have d:C.cells=⟨z⟩:=by rw[<-g]
   simp only[Instr.build,Sem.run_bind,j,Result.andThen_ok,run_underlying r,cU s,d,p]
   rfl
  .cases c
 .cases c
end
section
variable {P:Program} {B:Nat} {ρ:dR} {h:AH} {w:World}
def rB (ρ:dR):Option Value->Option Value->Prop
 |none,v=>v=none
 |some v,a=>∃u,aA ρ v u/\a=some u
theorem rB.map {c a:Operand->Value} (b:∀x,aA ρ (c x) (a x)) (o:Option Operand):rB ρ (o.map c) (o.map a):=by
 cases o with
 |none=>rfl
 |some x=>exact⟨_,b x,rfl⟩
theorem kT {v v':Value} (c:aA ρ v v') {d y b r:Nat} (f:y<=b) (hb:lY (some v) d y=some r):(∀code,(Instr.sliceBound v' b code).run P w= .ok r w)/\r<=y:=by
 unfold lY at hb;split at hb;rename_i a;cases a;rename_i k i a;cases a;simp only[aA] at c;subst c;split at hb;rename_i e;cases hb;exact⟨fun code=>run_sliceBound w k i b code e.1 (by omega),by omega⟩;cases hb;cases hb
theorem lH {s p o t q y:Option Value} (a:rB ρ s t) (e:rB ρ p q) (j:rB ρ o y) (s8:Bool) {len cap b m z l:Nat} (D:cap<=b)
  (A:lY o cap cap=some m) (i:(if p.isNone&&o.isSome then none else lY p len m)=some z) (d:lY s 0 z=some l):
  (Instr.sliceBounds s8 len b t q y).run P w= .ok (l,z,if o.isSome then m else b) w/\m<=cap/\l<=z/\(o=none->m=cap):=by
 cases o with
 |none=>
  simp only[rB] at j;subst j
  simp only[lY,Option.some.injEq] at A;subst A
  cases p with
  |none=>
   simp only[rB] at e;subst e
   simp[lY] at i;subst i
   cases s with
   |none=>simp only[rB] at a;subst a;simp[lY] at d;subst d;simp[Instr.sliceBounds]
   |some v=>
    obtain⟨u,f,rfl⟩:=a
    obtain⟨k,hle⟩:=kT (P:=P) (w:=w) f (Nat.le_refl _) d
    simp[Instr.sliceBounds,k,hle]
  |some v=>
   obtain⟨u,f,rfl⟩:=e
   simp at i
   obtain⟨k,hle⟩:=kT (P:=P) (w:=w) f D i
   cases s with
   |none=>simp only[rB] at a;subst a;simp[lY] at d;subst d;simp[Instr.sliceBounds,k]
   |some v=>
    obtain⟨u,f,rfl⟩:=a
    obtain⟨n,c⟩:=kT (P:=P) (w:=w) f (Nat.le_refl _) d
    simp[Instr.sliceBounds,k,n,c]
 |some x=>
  obtain⟨E,C,rfl⟩:=j
  obtain⟨r,g⟩:=kT (P:=P) (w:=w) C D A
  cases p with
  |none=>simp at i
  |some v=>
   obtain⟨u,f,rfl⟩:=e
   simp at i
   obtain⟨k,hle⟩:=kT (P:=P) (w:=w) f (Nat.le_refl _) i
   cases s with
   |none=>simp only[rB] at a;subst a;simp[lY] at d;subst d;simp[Instr.sliceBounds,r,k,g]
   |some v=>
    obtain⟨u,f,rfl⟩:=a
    obtain⟨n,c⟩:=kT (P:=P) (w:=w) f (Nat.le_refl _) d
    simp[Instr.sliceBounds,r,k,n,c,g]
theorem Js (hi:Inv P B ρ h w) {t:TypeId} {x x':Value} {lo K A N J O:Option Value} {v:Value} (z:aA ρ x x') (q:rB ρ lo N) (p:rB ρ K J) (g:rB ρ A O)
  (d:lQ P h t x lo K A=some v):∃v',(Instr.sliceAt t x' N J O).run P w= .ok v' w/\aA ρ v v':=by
 unfold lQ at d
 split at d
 .rename_i n e a C;simp only[aA] at z;obtain⟨b,s,T,rfl⟩:=z;split at d
  .rename_i m R;split at d
   .rename_i k u;split at d
    .rename_i l F;split at d
     .rename_i G;cases d;obtain⟨i,f⟩:=Option.isSome_iff_exists.1 G.1;obtain⟨j,_,_,D⟩:=lH (P:=P) (w:=w) q p g false (Nat.le_refl n) R u F;have M:(if A.isSome then m else n)=m:=by simp_all
      rw[M] at j
      obtain⟨ab,Q,o⟩:=a
      obtain rfl:o=none:=G.2
      refine⟨.slice (some (if m=l then⟨b,Q+s.2,none⟩ else Addr.add ⟨b,Q+s.2,none⟩ (l*P.cellsOf e))) (k - l) (m - l),?_,?_⟩
      .simp only[Instr.sliceAt,Sem.run_bind,run_underlying C,Result.andThen_ok,Instr.sureAddr,Sem.run_pure,j,cU f]
      .rw[cF,cF];split<;>(simp only[aA];exact⟨b,s,_,T,Nat.le_refl _,Nat.le_add_right _ _,by grind⟩)
     .cases d
    .cases d
   .cases d
  .cases d
 .rename_i s C;simp only[aA] at z;subst z;split at d
  .cases d
  .rename_i H;have H:A=none:=by simp_all
   subst H
   split at d
   .rename_i k u;split at d
    .rename_i l F;cases d;obtain⟨j,_⟩:=lH (P:=P) (w:=w) q p g false (Nat.le_refl s.size) (m:=s.size) rfl (by simpa using u) F;simp only[rB] at g;subst g;refine⟨.string (s.extract l k),?_,by simp only[aA]⟩;simp only[Instr.sliceAt,Instr.slice,Sem.run_bind,run_underlying C,Result.andThen_ok,Option.isSome_none,Bool.false_eq_true,if_false,Sem.run_pure] at j ⊢;simp[j]
    .cases d
   .cases d
 .rename_i e len I C;simp only[aA] at z;subst z;split at d
  .rename_i m R;split at d
   .rename_i k u;split at d
    .rename_i l F;split at d
     .rename_i G;cases d;obtain⟨i,f⟩:=Option.isSome_iff_exists.1 G;obtain⟨j,_,_,D⟩:=lH (P:=P) (w:=w) q p g true (Nat.le_refl I) R u F;have M:(if A.isSome then m else I)=m:=by simp_all
      rw[M] at j
      refine⟨.slice none (k - l) (m - l),?_,by simp only[aA]⟩
      simp only[Instr.sliceAt,Instr.slice,Sem.run_bind,run_underlying C,Result.andThen_ok,j,cU f,Sem.run_pure,Option.map_none]
      simp
     .cases d
    .cases d
   .cases d
  .cases d
 .rename_i e a len I C;obtain⟨ab,Q,o⟩:=a;split at d
  .rename_i m R;split at d
   .rename_i k u;split at d
    .rename_i l F;split at d
     .rename_i U;obtain⟨sp,rfl⟩:∃sp,o=some sp:=by cases o with|none=>simp at U|some sp=>exact⟨sp,rfl⟩
      split at d
      .rename_i G;obtain⟨f,rfl,rfl⟩:=G;cases d;obtain⟨i,f⟩:=Option.isSome_iff_exists.1 f;simp only[aA] at z;obtain⟨_,_,V,E,_,_,rfl⟩:=z;obtain⟨j,Y,X,D⟩:=lH (P:=P) (w:=w) q p g true (Nat.zero_le E) R u F;obtain rfl:m=0:=by omega
       have hz:k=0:=by
        cases K with
        |none=>
         simp_all
        |some v=>
         simp at u;unfold lY at u;grind
       subst hz
       obtain rfl:l=0:=by omega
       cases r:A.isSome with
       |true=>
        refine⟨.slice (some V) 0 0,?_,?_⟩
        .simp only[Instr.sliceAt,Instr.slice,Sem.run_bind,run_underlying C,Result.andThen_ok,j,cU f,Sem.run_pure,Option.map_some,r,if_true]
        .simp only[if_true,kC,aA];grind
       |false=>
        refine⟨.slice (some (if E=0 then V else V.add (0*P.cellsOf e))) 0 E,?_,?_⟩
        .simp only[Instr.sliceAt,Instr.slice,Sem.run_bind,run_underlying C,Result.andThen_ok,j,cU f,Sem.run_pure,Option.map_some,r,Bool.false_eq_true,if_false,Nat.sub_zero];split<;>rfl
        .simp only[Bool.false_eq_true,if_false,cz,aA];grind
      .cases d
     .rename_i U;have U:o=none:=by simp_all
      subst U
      simp only[aA] at z
      obtain⟨b,s,E,T,W,γ,rfl⟩:=z
      split at d
      .rename_i G;obtain⟨i,f⟩:=Option.isSome_iff_exists.1 G.1;obtain⟨j,Y,X,D⟩:=lH (P:=P) (w:=w) q p g true W R u F;have S:(Instr.sliceAt t (.slice (some ⟨b,Q+s.2,none⟩) len E) N J O).run P w=
         .ok (.slice (some (if(if A.isSome then m else E)=l then⟨b,Q+s.2,none⟩ else⟨b,Q+s.2+l*P.cellsOf e,none⟩)) (k - l) ((if A.isSome then m else E) - l)) w:=by
        simp only[Instr.sliceAt,Instr.slice,Sem.run_bind,run_underlying C,Result.andThen_ok,j,cU f,Sem.run_pure,Option.map_some,cF]
        grind
       refine⟨_,S,?_⟩
       split at d
       .rename_i L;subst L;obtain rfl:k=m:=by omega
        split at d
        .rename_i r;cases d;simp only[r,if_true,kC,aA];grind
        .rename_i r;have Z:A=none:=by simp_all
         subst Z
         have D:=D rfl
         subst D
         split at d
         .rename_i hex;cases d;unfold fX at hex;split at hex
          .rename_i c el fz x hg;cases hex;obtain⟨_,_,_,_,_,_,α⟩:=hi.gH _ _ hg b s T;have δ:s.1=0:=(α rfl).1;simp only[Option.isSome_none,Bool.false_eq_true,if_false,kC,aA];grind
          .cases hex
         .cases d;rw[cF];simp only[Option.isSome_none,Bool.false_eq_true,if_false,rC,aA];rw[Nat.sub_self];refine⟨trivial,trivial,_,E - k,fun k=>absurd k (by omega),fun _=>⟨b,s,T,by omega,fun β=>?_⟩,rfl⟩;grind
         .cases d
       .rename_i L;cases d;cases A with
        |none=>
         have D:=D rfl
         subst D
         simp only[Option.isSome_none,Bool.false_eq_true,if_false]
         rw[aab,cF]
         simp only[aA]
         grind
        |some y=>
         simp only[Option.isSome_some,if_true]
         rw[cF,tt L]
         simp only[aA]
         grind
      .cases d
    .cases d
   .cases d
  .cases d
 .cases d
end
section
variable {P:Program} {B:Nat} {ρ:dR} {h:AH} {w:World}
theorem lB {d:Nat} {eq:TypeId->Value->Value->Option Bool} (heq:∀t x y n o r,aA ρ x n->aA ρ y o->eq t x y=some r->(Op.equalIn d t n o).run P w= .ok r w)
  {xs ys c e:List Value} (j:aC ρ xs c) (l:aC ρ ys e):∀(fs:List Field) (r:Bool),fU P eq xs ys fs=some r->(Op.eqFields d ⟨c⟩ ⟨e⟩ fs).run P w= .ok r w
 |[],r,h=>by simp only[fU,Option.some.injEq] at h;subst h;simp[Op.eqFields]
 |f::fs,r,h=>by
  simp only[fU] at h;split at h;rename_i i;simp only[Op.eqFields,i,ne_eq,not_true_eq_false,if_false];exact lB heq j l fs r h;rename_i i;simp only[Op.eqFields,ne_eq,i,not_false_eq_true,if_true,Sem.run_bind];split at h;rename_i x y p q;obtain⟨n,k,a⟩:=oH (P:=P) (w:=w) p j;obtain⟨o,m,b⟩:=oH (P:=P) (w:=w) q l;simp only[k,m,Result.andThen_ok];split at h;rename_i g;have:=heq _ _ _ _ _ _ a b g;simp only[this,Result.andThen_ok];simpa using lB heq j l fs r h;rename_i g;cases h;have:=heq _ _ _ _ _ _ a b g;simp[this];cases h;cases h
theorem sC {d:Nat} {e:TypeId} {eq:TypeId->Value->Value->Option Bool} (heq:∀t x y l m r,aA ρ x l->aA ρ y m->eq t x y=some r->(Op.equalIn d t l m).run P w= .ok r w)
  {xs ys c f:List Value} (n:aC ρ xs c) (o:aC ρ ys f):∀(is:List Nat) (r:Bool),jR P eq e xs ys is=some r->(Op.eqItems d e (P.cellsOf e) ⟨c⟩ ⟨f⟩ is).run P w= .ok r w
 |[],r,h=>by simp only[jR,Option.some.injEq] at h;subst h;simp[Op.eqItems]
 |i::is,r,h=>by
  simp only[jR] at h;simp only[Op.eqItems,Sem.run_bind];split at h;rename_i x y p q;obtain⟨l,j,a⟩:=oH (P:=P) (w:=w) p n;obtain⟨m,k,b⟩:=oH (P:=P) (w:=w) q o;simp only[j,k,Result.andThen_ok];split at h;rename_i g;have:=heq _ _ _ _ _ _ a b g;simp only[this,Result.andThen_ok];simpa using sC heq n o is r h;rename_i g;cases h;have:=heq _ _ _ _ _ _ a b g;simp[this];cases h;cases h
set_option maxHeartbeats 1000000 in
theorem Ra (d:Nat):∀(t:TypeId) (x y p q:Value) (r:Bool),aA ρ x p->aA ρ y q->qI P d t x y=some r->(Op.equalIn d t p q).run P w= .ok r w:=by
 induction d with
 |zero=>intro _ _ _ _ _ _ _ _ h;simp[qI] at h
 |succ d u=>
  intro t x y p q r g c h;unfold qI at h;split at h;rename_i f;simp only[aA] at g c;subst g;subst c;cases h;simp[Op.equalIn,run_underlying f];rename_i f;simp only[aA] at g c;subst g;subst c;split at h;rename_i C;cases h;simp[Op.equalIn,run_underlying f,C];cases h;rename_i f;simp only[aA] at g c;subst g;subst c;cases h;simp[Op.equalIn,run_underlying f];rename_i b f;simp only[aA] at g;subst g;cases h;cases b with
  |none=>simp only[aA] at c;subst c;simp[Op.equalIn,run_underlying f]
  |some b=>simp only[aA] at c;obtain⟨_,_,_,rfl⟩:=c;simp[Op.equalIn,run_underlying f]
  rename_i f;simp only[aA] at g c;obtain⟨_,_,_,rfl⟩:=g;subst c;cases h;simp[Op.equalIn,run_underlying f];rename_i f;simp only[aA] at g c;subst g;subst c;cases h;simp[Op.equalIn,run_underlying f];rename_i f;simp only[aA] at g c;subst g;obtain⟨_,_,rfl⟩:=c;cases h;simp[Op.equalIn,run_underlying f];rename_i f;simp only[aA] at g c;obtain⟨_,_,rfl⟩:=g;subst c;cases h;simp[Op.equalIn,run_underlying f];rename_i v D E f;simp only[aA] at g c;obtain⟨l,j,rfl⟩:=g;obtain⟨m,k,rfl⟩:=c;split at h;cases h;rename_i o;have s:P.fieldsOf t=v:=by simp[Program.fieldsOf,f]
  rw[run_equalIn_struct w d t l m (by rw[s];exact f) (by simpa using o),s];exact lB u (dY.1 j) (dY.1 k) _ _ h;rename_i n e D E f;simp only[aA] at g c;obtain⟨l,j,rfl⟩:=g;obtain⟨m,k,rfl⟩:=c;split at h;rename_i z;obtain⟨i,A⟩:=Option.isSome_iff_exists.1 z;rw[run_equalIn_array w d l m f A];exact sC u (dY.1 j) (dY.1 k) _ _ h;cases h;rename_i b _ _ f;simp only[aA] at g;subst g;cases h;cases b with
  |none=>simp only[aA] at c;subst c;simp[Op.equalIn,run_underlying f]
  |some b=>
   obtain⟨_,_,sp⟩:=b;cases sp with
   |none=>simp only[aA] at c;obtain⟨_,_,_,_,_,_,rfl⟩:=c;simp[Op.equalIn,run_underlying f]
   |some _=>simp only[aA] at c;obtain⟨_,_,_,_,_,_,rfl⟩:=c;simp[Op.equalIn,run_underlying f]
  rename_i a _ _ _ _ f;simp only[aA] at c;subst c;cases h;obtain⟨_,_,sp⟩:=a;cases sp with
  |none=>simp only[aA] at g;obtain⟨_,_,_,_,_,_,rfl⟩:=g;simp[Op.equalIn,run_underlying f]
  |some _=>simp only[aA] at g;obtain⟨_,_,_,_,_,_,rfl⟩:=g;simp[Op.equalIn,run_underlying f]
  rename_i b f;simp only[aA] at g;subst g;cases h;cases b with
  |none=>simp only[aA] at c;subst c;simp[Op.equalIn,run_underlying f]
  |some b=>simp only[aA] at c;obtain⟨_,_,_,rfl⟩:=c;simp[Op.equalIn,run_underlying f]
  rename_i f;simp only[aA] at g c;obtain⟨_,_,_,rfl⟩:=g;subst c;cases h;simp[Op.equalIn,run_underlying f];rename_i f;simp only[aA] at g c;subst g;subst c;cases h;simp[Op.equalIn,run_underlying f];rename_i f;simp only[aA] at g c;subst g;obtain⟨_,_,_,_,_,_,rfl⟩:=c;cases h;simp[Op.equalIn,run_underlying f];rename_i f;simp only[aA] at g c;obtain⟨_,_,_,_,_,_,rfl⟩:=g;subst c;cases h;simp[Op.equalIn,run_underlying f];cases h
end
section
variable {P:Program} {B:Nat} {ρ:dR} {h:AH} {w:World}
theorem C8 {op:BinOp} {t:TypeId} {x y:Operand} {a b k l:Value} (d:aA ρ a k) (hb:aA ρ b l) (o:nJ a=false) (n:nJ b=false) (g:wW P t x y a b=true):
  (eqGuard op t x y k l).run P w= .ok () w:=by
 cases a with
 |chan r=>simp[nJ] at o
 |nilIface=>
  simp only[aA] at d;subst d
  cases b with
  |chan r=>simp[nJ] at n
  |nilIface=>
   simp only[aA] at hb;subst hb
   simp only[wW,Bool.or_eq_true] at g
   cases x with
   |const c=>rw[eqGuard_nil_constL];rfl
   |_=>
    cases y with
    |const c=>rw[eqGuard_nil_constR];rfl
    |_=>simp[isConst] at g
  |iface u v=>simp only[aA] at hb;obtain⟨_,_,rfl⟩:=hb;rw[eqGuard_nil_iface];rfl
  |agg e=>simp only[aA] at hb;obtain⟨_,_,rfl⟩:=hb;cases op<;>rfl
  |tuple e=>simp only[aA] at hb;obtain⟨_,_,rfl⟩:=hb;cases op<;>rfl
  |func m f c=>simp only[aA] at hb;obtain⟨_,_,_,_,_,_,rfl⟩:=hb;cases op<;>rfl
  |pointer a=>cases a with
   |none=>simp only[aA] at hb;subst hb;cases op<;>rfl
   |some a=>simp only[aA] at hb;obtain⟨_,_,_,rfl⟩:=hb;cases op<;>rfl
  |map a=>cases a with
   |none=>simp only[aA] at hb;subst hb;cases op<;>rfl
   |some a=>simp only[aA] at hb;obtain⟨_,_,_,rfl⟩:=hb;cases op<;>rfl
  |slice a _ _=>cases a with
   |none=>simp only[aA] at hb;subst hb;cases op<;>rfl
   |some a=>
    obtain⟨_,_,sp⟩:=a
    cases sp with
    |none=>simp only[aA] at hb;obtain⟨_,_,_,_,_,_,rfl⟩:=hb;cases op<;>rfl
    |some _=>simp only[aA] at hb;obtain⟨_,_,_,_,_,_,rfl⟩:=hb;cases op<;>rfl
  |_=>simp only[aA] at hb;subst hb;cases op<;>rfl
 |iface u v=>simp only[aA] at d;obtain⟨_,_,rfl⟩:=d;rw[eqGuard_at_iface];rfl
 |tuple e=>simp only[aA] at d;obtain⟨_,_,rfl⟩:=d;rw[eqGuard_at_tuple];rfl
 |func m f c=>simp only[aA] at d;obtain⟨_,_,_,_,_,_,rfl⟩:=d;rw[eqGuard_at_func];rfl
 |pointer a=>cases a with
  |none=>simp only[aA] at d;subst d;rw[eqGuard_at_pointer];rfl
  |some a=>simp only[aA] at d;obtain⟨_,_,_,rfl⟩:=d;rw[eqGuard_at_pointer];rfl
 |map a=>cases a with
  |none=>simp only[aA] at d;subst d;rw[eqGuard_at_map];rfl
  |some a=>simp only[aA] at d;obtain⟨_,_,_,rfl⟩:=d;rw[eqGuard_at_map];rfl
 |slice a _ _=>cases a with
  |none=>simp only[aA] at d;subst d;rw[eqGuard_at_slice];rfl
  |some a=>
   obtain⟨_,_,sp⟩:=a
   cases sp with
   |none=>simp only[aA] at d;obtain⟨_,_,_,_,_,_,rfl⟩:=d;rw[eqGuard_at_slice];rfl
   |some _=>simp only[aA] at d;obtain⟨_,_,_,_,_,_,rfl⟩:=d;rw[eqGuard_at_slice];rfl
 |bool _=>simp only[aA] at d;subst d;rw[eqGuard_at_bool];rfl
 |int _ _=>simp only[aA] at d;subst d;rw[eqGuard_at_int];rfl
 |float _ _=>simp only[aA] at d;subst d;rw[eqGuard_at_float];rfl
 |complex _ _ _=>simp only[aA] at d;subst d;rw[eqGuard_at_complex];rfl
 |string _=>simp only[aA] at d;subst d;rw[eqGuard_at_string];rfl
 |nilFunc=>simp only[aA] at d;subst d;rw[eqGuard_at_nilFunc];rfl
 |agg e=>
  simp only[aA] at d;obtain⟨i,_,rfl⟩:=d
  cases b with
  |agg p=>
   simp only[aA] at hb;obtain⟨j,_,rfl⟩:=hb
   simp only[wW,Bool.not_eq_true'] at g
   exact run_eqGuard_agg w op t x y i j g
  |chan r=>simp[nJ] at n
  |iface u v=>simp only[aA] at hb;obtain⟨_,_,rfl⟩:=hb;cases op<;>rfl
  |tuple e=>simp only[aA] at hb;obtain⟨_,_,rfl⟩:=hb;cases op<;>rfl
  |func m f c=>simp only[aA] at hb;obtain⟨_,_,_,_,_,_,rfl⟩:=hb;cases op<;>rfl
  |pointer a=>cases a with
   |none=>simp only[aA] at hb;subst hb;cases op<;>rfl
   |some a=>simp only[aA] at hb;obtain⟨_,_,_,rfl⟩:=hb;cases op<;>rfl
  |map a=>cases a with
   |none=>simp only[aA] at hb;subst hb;cases op<;>rfl
   |some a=>simp only[aA] at hb;obtain⟨_,_,_,rfl⟩:=hb;cases op<;>rfl
  |slice a _ _=>cases a with
   |none=>simp only[aA] at hb;subst hb;cases op<;>rfl
   |some a=>
    obtain⟨_,_,sp⟩:=a
    cases sp with
    |none=>simp only[aA] at hb;obtain⟨_,_,_,_,_,_,rfl⟩:=hb;cases op<;>rfl
    |some _=>simp only[aA] at hb;obtain⟨_,_,_,_,_,_,rfl⟩:=hb;cases op<;>rfl
  |_=>simp only[aA] at hb;subst hb;cases op<;>rfl
theorem tF {d:Nat} {t:TypeId} {x y:Value} {r:Bool} (h:qI P d t x y=some r):nJ x=false/\nJ y=false:=by
 cases d with
 |zero=>simp[qI] at h
 |succ d=>unfold qI at h;split at h<;>first|exact⟨rfl,rfl⟩|cases h
theorem tC {op:BinOp} {k k':IntKind} {t:TypeId} {m n:Int} {v:Value} (a:zF op k m n=some v):(binOp op t (.int k m) (.int k' n)).run P w= .ok v w/\∀ρ:dR,aA ρ v v:=by
 unfold zF at a;split at a;cases a;rename_i b;split at a;cases a;exact⟨by simp[binOp,Op.shift,b],fun ρ=>by simp only[aA]⟩;cases a;exact⟨by simp[binOp,Op.shift,b],fun ρ=>by simp only[aA]⟩;cases a
theorem Tu {op:BinOp} {k:IntKind} {t:TypeId} {m n:Int} {v:Value} (a:Jo op k m n=some v):(binOp op t (.int k m) (.int k n)).run P w= .ok v w/\∀ρ:dR,aA ρ v v:=by
 cases op<;>simp only[Jo,je,Option.map_some,Option.some.injEq] at a<;>try cases a
 case shl=>exact tC a
 case shr=>exact tC a
 case and=>exact⟨by simp[binOp,Op.intBits],fun ρ=>by simp only[aA]⟩
 case or=>exact⟨by simp[binOp,Op.intBits],fun ρ=>by simp only[aA]⟩
 case xor=>exact⟨by simp[binOp,Op.intBits],fun ρ=>by simp only[aA]⟩
 case andNot=>exact⟨by simp[binOp,Op.intBits],fun ρ=>by simp only[aA]⟩
 case add=>exact⟨by rw[binOp_add];rfl,fun ρ=>by simp only[aA]⟩
 case sub=>exact⟨by rw[binOp_sub];rfl,fun ρ=>by simp only[aA]⟩
 case mul=>exact⟨by rw[binOp_mul];rfl,fun ρ=>by simp only[aA]⟩
 case quo=>
  split at a;cases a;rename_i h;cases a;exact⟨by rw[binOp_quo];simp[Op.intDiv,h],fun ρ=>by simp only[aA]⟩
 case rem=>
  split at a;cases a;rename_i h;cases a;exact⟨by rw[binOp_rem];simp[Op.intDiv,h],fun ρ=>by simp only[aA]⟩
 case eql=>exact⟨by rw[binOp_eql];rfl,fun ρ=>by simp only[aA]⟩
 case neq=>exact⟨by rw[binOp_neq];rfl,fun ρ=>by simp only[aA]⟩
 case lss=>exact⟨by rw[binOp_lss];rfl,fun ρ=>by simp only[aA]⟩
 case leq=>exact⟨by rw[binOp_leq];rfl,fun ρ=>by simp only[aA]⟩
 case gtr=>exact⟨by rw[binOp_gtr];rfl,fun ρ=>by simp only[aA]⟩
 case geq=>exact⟨by rw[binOp_geq];rfl,fun ρ=>by simp only[aA]⟩
theorem U8 {op:BinOp} {t:TypeId} {m n:ByteArray} {v:Value} (a:Ck op m n=some v):(binOp op t (.string m) (.string n)).run P w= .ok v w/\∀ρ:dR,aA ρ v v:=by
 cases op<;>simp only[Ck,Option.some.injEq] at a<;>try cases a
 case add=>
  split at a;rename_i h;cases a;refine⟨?_,fun ρ=>by simp only[aA]⟩;have:¬(((m.size+n.size:Nat):Int)>IntKind.i64.max):=by rw[IntKind.max_i64];omega
  simp only[binOp,Op.stringOp];rw[tt this];rfl;cases a
 case eql=>exact⟨by simp[binOp,Op.stringOp],fun ρ=>by simp only[aA]⟩
 case neq=>exact⟨by simp[binOp,Op.stringOp],fun ρ=>by simp only[aA]⟩
 case lss=>exact⟨by simp[binOp,Op.stringOp],fun ρ=>by simp only[aA]⟩
theorem sD {t:TypeId} {a b g i:Value} {r:Bool} (d:aA ρ a g) (hb:aA ρ b i) (j:qI P 10000 t a b=some r) (q:∀k m l n,¬(a= .int k m/\b= .int l n)) (s:∀m n,¬(a= .string m/\b= .string n)):
  (binOp .eql t g i).run P w= .ok (.bool r) w/\(binOp .neq t g i).run P w= .ok (.bool !r) w:=by
 have A:(Op.equal t g i).run P w= .ok r w:=Ra 10000 t a b g i r d hb j
 obtain⟨p,z⟩:=tF j
 have x:∀op,(op=BinOp.eql\/op=BinOp.neq)->binOp op t g i=(if op= .eql then(do pure (.bool (<-Op.equal t g i)):Sem Value) else do pure (.bool (!(<-Op.equal t g i)))):=by
  intro op e;cases a with
  |chan r=>simp[nJ] at p
  |int k m=>
   simp only[aA] at d;subst d;cases b with
   |int l n=>grind
   |_=>
    unfold qI at j;grind
  |string m=>
   simp only[aA] at d;subst d;cases b with
   |string n=>grind
   |_=>
    unfold qI at j;grind
  |float k m=>unfold qI at j;grind
  |complex k m n=>unfold qI at j;grind
  |tuple o=>unfold qI at j;grind
  |bool c=>simp only[aA] at d;subst d;rcases e with rfl|rfl<;>simp[binOp]
  |nilFunc=>simp only[aA] at d;subst d;rcases e with rfl|rfl<;>simp[binOp]
  |nilIface=>simp only[aA] at d;subst d;rcases e with rfl|rfl<;>simp[binOp]
  |iface u v=>simp only[aA] at d;obtain⟨_,_,rfl⟩:=d;rcases e with rfl|rfl<;>simp[binOp]
  |func y f c=>simp only[aA] at d;obtain⟨_,_,_,_,_,_,rfl⟩:=d;rcases e with rfl|rfl<;>simp[binOp]
  |agg o=>simp only[aA] at d;obtain⟨_,_,rfl⟩:=d;rcases e with rfl|rfl<;>simp[binOp]
  |pointer a=>cases a with
   |none=>simp only[aA] at d;subst d;rcases e with rfl|rfl<;>simp[binOp]
   |some a=>simp only[aA] at d;obtain⟨_,_,_,rfl⟩:=d;rcases e with rfl|rfl<;>simp[binOp]
  |map a=>cases a with
   |none=>simp only[aA] at d;subst d;rcases e with rfl|rfl<;>simp[binOp]
   |some a=>simp only[aA] at d;obtain⟨_,_,_,rfl⟩:=d;rcases e with rfl|rfl<;>simp[binOp]
  |slice a _ _=>cases a with
   |none=>simp only[aA] at d;subst d;rcases e with rfl|rfl<;>simp[binOp]
   |some a=>
    obtain⟨_,_,sp⟩:=a
    cases sp with
    |none=>simp only[aA] at d;obtain⟨_,_,_,_,_,_,rfl⟩:=d;rcases e with rfl|rfl<;>simp[binOp]
    |some _=>simp only[aA] at d;obtain⟨_,_,_,_,_,_,rfl⟩:=d;rcases e with rfl|rfl<;>simp[binOp]
 simp_all
theorem Rs {op:BinOp} {t:TypeId} {x y:Operand} {a b p q v:Value} (f:aA ρ a p) (hb:aA ρ b q) (c:E3 P op t x y a b=some v):
  ∃A,(do eqGuard op t x y p q;binOp op t p q:Sem Value).run P w= .ok A w/\aA ρ v A:=by
 unfold E3 at c
 split at c
 .rename_i k m j n;simp only[aA] at f hb;subst f;subst hb;split at c
  .rename_i C;subst C;obtain⟨d,e⟩:=Tu (P:=P) (w:=w) (t:=t) c;exact⟨v,by simp only[Sem.run_bind,eqGuard_at_int,Sem.run_pure,Result.andThen_ok,d],e ρ⟩
  .obtain⟨d,e⟩:=tC (P:=P) (w:=w) (t:=t) (k':=j) c;exact⟨v,by simp only[Sem.run_bind,eqGuard_at_int,Sem.run_pure,Result.andThen_ok,d],e ρ⟩
 .rename_i m n;simp only[aA] at f hb;subst f;subst hb;obtain⟨d,e⟩:=U8 (P:=P) (w:=w) (t:=t) c;exact⟨v,by simp only[Sem.run_bind,eqGuard_at_string,Sem.run_pure,Result.andThen_ok,d],e ρ⟩
 .rename_i s u;have g:∀k m j n,¬(a= .int k m/\b= .int j n):=fun k m j n l=>s k m j n l.1 l.2;have i:∀m n,¬(a= .string m/\b= .string n):=fun m n l=>u m n l.1 l.2;split at c
  .split at c
   .rename_i z;simp only[Option.map_eq_some_iff] at c;obtain⟨r,o,rfl⟩:=c;obtain⟨d,e⟩:=tF o;refine⟨.bool r,?_,by simp only[aA]⟩;simp only[Sem.run_bind,C8 f hb d e z,Result.andThen_ok,(sD f hb o g i).1]
   .cases c
  .split at c
   .rename_i z;simp only[Option.map_eq_some_iff] at c;obtain⟨r,o,rfl⟩:=c;obtain⟨d,e⟩:=tF o;refine⟨.bool !r,?_,by simp only[aA]⟩;simp only[Sem.run_bind,C8 f hb d e z,Result.andThen_ok,(sD f hb o g i).2]
   .cases c
  .cases c
end
section
variable {P:Program} {B:Nat} {ρ:dR} {h:AH} {w:World}
theorem sO {r:Nat} {o:Obj} (a:w.heap[r]?=some o) (b:∀c e f,o≠.cells c e f):(getObj r).run P w= .ok o w:=by
 simp only[getObj,Sem.run,a]
theorem lU {r:Nat} {o o':Obj} (a:w.heap[r]?=some o) (b:∀c e f,o≠.cells c e f):(setObj r o').run P w= .ok () {w with heap:=w.heap.setIfInBounds r o'}:=by
 simp only[setObj,Sem.run,a]
theorem iY {r:Nat} {es:Array MapEntry} {c:Nat} (b:w.heap[r]?=some (.map es c)):(getObj r).run P w= .ok (.map es c) w:=
 sO b fun _ _ _ a=>by cases a
theorem pV {r:Nat} {es:Array MapEntry} {c:Nat} {o':Obj} (b:w.heap[r]?=some (.map es c)):(setObj r o').run P w= .ok () {w with heap:=w.heap.setIfInBounds r o'}:=
 lU b fun _ _ _ a=>by cases a
theorem yW {t e:TypeId} (h:wI P t=some e):∃a k,P.underlying t=some (.map a e)/\P.underlying a=some (.int k):=by
 unfold wI at h;grind
def J5 (ρ:dR):Option (Nat×Value)->Option (Nat×Value)->Prop
 |none,y=>y=none
 |some (i,v),y=>∃a,aA ρ v a/\y=some (i,a)
theorem vY {kk k:IntKind} {n:Int}:∀(es:List (Value×Value×Nat)) (c:List MapEntry) (i:Nat) (r:Option (Nat×Value)),fB ρ es c->rF k n es i=some r->
  ∃f,Instr.findNow (.int kk) (.int k n) c i=some f/\J5 ρ r f
 |[],c,i,r,e,a=>by
  simp only[fB] at e;subst e;simp only[rF,Option.some.injEq] at a;subst a;exact⟨none,rfl,rfl⟩
 |(l,v,b)::es,c,i,r,e,a=>by
  obtain⟨y,p,t,o,q,s,rfl⟩:=e;cases l with
  |int j m=>
   simp only[aA] at o;subst o;simp only[rF] at a;split at a;rename_i u;subst u;split at a;rename_i g;simp only[Option.some.injEq] at a;subst a;refine⟨some (i,p),?_,p,q,rfl⟩;simp[Instr.findNow,Instr.sameNow,g];rename_i g;obtain⟨f,x,d⟩:=vY (kk:=kk) es t (i+1) r s a;refine⟨f,?_,d⟩;have:(n==m)=false:=by simpa using g
   simp[Instr.findNow,Instr.sameNow,this,x];cases a
  |_=>simp[rF] at a
theorem gY {d:TypeId} {kk k:IntKind} {n:Int} (g:P.underlying d=some (.int kk)) {es:List (Value×Value×Nat)} {a:List MapEntry} {r:Option (Nat×Value)} (e:fB ρ es a) (f:rF k n es 0=some r):
  ∃c,(Instr.findKey d (.int k n) a).run P w= .ok c w/\J5 ρ r c:=by
 obtain⟨c,i,b⟩:=vY (kk:=kk) es a 0 r e f
 refine⟨c,?_,b⟩
 simp only[Instr.findKey,Sem.run_bind,run_underlying g,Result.andThen_ok,i,Sem.run_pure]
theorem eQ {a:TypeId} {kk k:IntKind} {n:Int} (b:P.underlying a=some (.int kk)) (e:Bool):(Instr.checkKey e 10000 a (.int k n)).run P w= .ok () w:=by
 show(Instr.checkKey e (9999+1) a (.int k n)).run P w= .ok () w;rw[Instr.checkKey,Sem.run_bind,run_underlying b];rfl
theorem Qe {t:TypeId} {z:Value} (a:zeroV P t=some z):(zeroValue t).run P w= .ok z w/\aA ρ z z:=by
 unfold zeroV at a;cases hi:P.info? t with
 |none=>simp[hi] at a
 |some i=>
  cases hz0:i.zero with
  |none=>simp[hi,hz0] at a
  |some z0=>
   simp only[hi,hz0,Option.bind_some] at a;split at a;rename_i b;cases a;exact⟨by simp[zeroValue,typeInfo,hi,hz0],dB _ b⟩;cases a
theorem Oq (k:Inv P B ρ h w) {x f:Value} {es:List (Value×Value×Nat)} (e:aA ρ x f) (d:Sk h x=some es):
  ∃a,fB ρ es a/\((f= .map none/\a=[])\/∃r c,f= .map (some r)/\w.heap[r]?=some (.map ⟨a⟩ c)):=by
 unfold Sk at d
 split at d
 .cases d;simp only[aA] at e;exact⟨[],rfl,.inl ⟨e,rfl⟩⟩
 .rename_i r;split at d
  .rename_i g c j;cases d;simp only[aA] at e;obtain⟨b,s,i,rfl⟩:=e;obtain⟨n,l,a,m,rfl⟩:=k.gH _ _ j b s i;grind
  .cases d
 .cases d
theorem Nl (G:Inv P B ρ h w) {t:TypeId} {x D ix o v:Value} {ok:Bool} (K:aA ρ x D) (g:aA ρ ix o) (a:mD P h t x ix ok=some v):
  ∃q,(Instr.lookup t D o ok).run P w= .ok q w/\aA ρ v q:=by
 unfold mD at a
 split at a
 .rename_i e M k n H I;obtain⟨C,N,F,b⟩:=yW H;obtain⟨s,E,y⟩:=Oq G K I;simp only[aA] at g;subst g;have fin:∀(r:Option (Nat×Value)) (d:Option (Nat×Value)),(Instr.findKey C (.int k n) s).run P w= .ok d w->
    (Instr.lookup t D (.int k n) ok).run P w=(match d with
     |some (_,v)=>(.ok (if ok then .tuple #[v,.bool true] else v) w:Result Value)
     |none=>((zeroValue e).run P w).andThen fun z w=> .ok (if ok then .tuple #[z,.bool false] else z) w):=by
   intro r d f
   rcases y with⟨rfl,rfl⟩|⟨r,c,rfl,J⟩
   .unfold Instr.lookup;simp only[Sem.run_bind,run_underlying F,Result.andThen_ok,eQ b,f,Sem.run_pure];cases d with
    |some p=>rfl
    |none=>simp_all
   .unfold Instr.lookup;simp only[Sem.run_bind,run_underlying F,Result.andThen_ok,iY J,eQ b,f,Sem.run_pure];cases d with
    |some p=>rfl
    |none=>simp_all
  split at a
  .rename_i i v0 f;simp only[Option.some.injEq] at a;obtain⟨d,u,q,l,rfl⟩:=gY (w:=w) b E f;refine⟨_,fin none _ u,?_⟩;subst a;cases ok
   .exact l
   .show aA ρ (.tuple ⟨[v0,.bool true]⟩) (.tuple ⟨[q,.bool true]⟩);simp only[aA];exact⟨_,by simp only[fG];exact aC.cons l (aC.cons (by simp only[aA]) aC.nil),rfl⟩
  .rename_i f;simp only[Option.map_eq_some_iff] at a;obtain⟨z,L,a⟩:=a;obtain⟨d,u,j⟩:=gY (w:=w) b E f;simp only[J5] at j;subst j;obtain⟨A,m⟩:=Qe (w:=w) (ρ:=ρ) L;refine⟨_,by rw[fin none _ u,A];rfl,?_⟩;subst a;cases ok
   .exact m
   .show aA ρ (.tuple ⟨[z,.bool false]⟩) (.tuple ⟨[z,.bool false]⟩);simp only[aA];exact⟨_,by simp only[fG];exact aC.cons m (aC.cons (by simp only[aA]) aC.nil),rfl⟩
  .cases a
 .cases a
theorem fB.length:∀{es:List (Value×Value×Nat)} {a:List MapEntry},fB ρ es a->es.length=a.length
 |[],_,b=>by simp only[fB] at b;subst b;rfl
 |(_,_,_)::es,_,⟨_,_,t,_,_,c,rfl⟩=>by simp[fB.length c]
theorem fB.snoc:∀{es:List (Value×Value×Nat)} {a:List MapEntry} {k k' v v':Value} {c:Nat},fB ρ es a->aA ρ k k'->aA ρ v v'->
  fB ρ (es++[(k,v,c)]) (a++[{key:=k',val:=v',born:=c}])
 |[],_,k,k',v,v',c,e,b,d=>by simp only[fB] at e;subst e;exact⟨k',v',[],b,d,rfl,rfl⟩
 |(_,_,_)::es,_,k,k',v,v',c,⟨j,v1,t,f,g,i,rfl⟩,b,d=>⟨j,v1,_,f,g,fB.snoc i b d,rfl⟩
theorem fB.erase:∀{es:List (Value×Value×Nat)} {a:List MapEntry} (i:Nat),fB ρ es a->fB ρ (es.eraseIdx i) (a.eraseIdx i)
 |[],_,i,e=>by simp only[fB] at e;subst e;simp[fB]
 |(_,_,_)::es,_,0,⟨_,_,t,c,d,b,rfl⟩=>b
 |(_,_,_)::es,_,i+1,⟨f,v1,t,c,d,b,rfl⟩=>⟨f,v1,_,c,d,fB.erase i b,rfl⟩
theorem fB.mod:∀{es:List (Value×Value×Nat)} {a:List MapEntry} (i:Nat) {k k' v v':Value},fB ρ es a->aA ρ k k'->aA ρ v v'->
  fB ρ (es.modify i fun e=>(k,v,e.2.2)) (a.modify i fun e=>{e with key:=k',val:=v'})
 |[],_,i,k,k',v,v',j,_,_=>by simp only[fB] at j;subst j;simp[fB]
 |(_,_,_)::es,_,0,k,k',v,v',⟨_,_,t,f,g,b,rfl⟩,c,d=>⟨k',v',t,c,d,b,rfl⟩
 |(_,_,_)::es,_,i+1,k,k',v,v',⟨l,v1,t,f,g,b,rfl⟩,c,d=>⟨l,v1,_,f,g,fB.mod i b c d,rfl⟩
theorem xO {kk k:IntKind} {n:Int}:∀(a:List MapEntry) (i:Nat) {j:Nat} {v:Value},Instr.findNow (.int kk) (.int k n) a i=some (some (j,v))->i<=j/\∃e,a[j - i]?=some e/\e.key= .int k n
 |[],i,j,v,h=>by simp[Instr.findNow] at h
 |e::c,i,j,v,h=>by
  simp only[Instr.findNow] at h;split at h;rename_i b;simp only[Option.some.injEq,Prod.mk.injEq] at h;obtain⟨rfl,rfl⟩:=h;refine⟨Nat.le_refl _,e,by simp,?_⟩;cases hk:e.key with
  |int j m=>
   rw[hk] at b;simp only[Instr.sameNow] at b;grind
  |_=>rw[hk] at b;simp[Instr.sameNow] at b
  obtain⟨f,d,g,l⟩:=xO c (i+1) h;grind;cases h
theorem Bw (j:Inv P B ρ h w) {a:Array TypeId} {ty t k e:TypeId} {x g:Value} {es:List (Value×Value×Nat)} (b:a[0]?=some t) (d:P.underlying t=some (.map k e)) (n:aA ρ x g) (l:Sk h x=some es):
  (Builtin.len_ a ty #[g]).run P w= .ok (goInt es.length) w:=by
 obtain⟨i,f,⟨rfl,rfl⟩|⟨r,c,rfl,m⟩⟩:=Oq j n l
 .have:=f.length;simp[Builtin.len_,b,run_underlying d,this]
 .have:=f.length;simp[Builtin.len_,b,run_underlying d,iY m,this]
theorem Mm (F:Inv P B ρ h w) {t:TypeId} {m O k k' x q:Value} {I:AH} (K:aA ρ m O) (J:aA ρ k k') (M:aA ρ x q) (g:rK P h t m k x=some I):
  ∃R,(Instr.mapUpdate t O k' q).run P w= .ok () R/\fA P B ρ h w ρ I R:=by
 unfold rK at g
 split at g
 .rename_i e r j n v;obtain⟨key,N,L,d⟩:=yW v;split at g
  .cases g
  .rename_i C;split at g
   .rename_i S a E;simp only[Option.map_eq_some_iff] at g;obtain⟨o,l,rfl⟩:=g;simp only[aA] at K J;subst J;obtain⟨b,s,A,rfl⟩:=K;obtain⟨W,f,c,u,rfl⟩:=F.gH _ _ E b s A;unfold fy at l;split at l
    .rename_i i v0 z;simp only[Option.some.injEq] at l;subst l;obtain⟨U,G,Q,_,rfl⟩:=gY (w:=w) d u z;obtain⟨X,H,v2,_,rfl⟩:=vY (kk:=N) S c 0 _ u z;obtain⟨_,V,D,T⟩:=xO c 0 H;simp only[Nat.sub_zero] at D;have p:(Instr.keyThatStays (.int j n) (.int j n)).run P w= .ok (.int j n) w:=by
      simp[Instr.keyThatStays,Instr.sameBits]
     refine⟨{w with heap:=w.heap.setIfInBounds b (.map ((⟨c⟩:Array MapEntry).modify i fun e=>{e with key:= .int j n,val:=q}) a)},?_,?_⟩
     .unfold Instr.mapUpdate;simp only[Sem.run_bind,run_underlying L,Result.andThen_ok,iY f,eQ d,G];rw[show((⟨c⟩:Array MapEntry)[i]?).map (·.key)=some (.int j n) by grind];simp only[Option.getD_some,p,Result.andThen_ok,pV f]
     .refine mJ F (by omega) E A ?_ rfl rfl rfl rfl;refine⟨_,fB.mod i u (k':= .int j n) (v':=q) (by simp only[aA]) M,?_⟩;grind
    .rename_i z;simp only[Option.some.injEq] at l;subst l;obtain⟨U,G,y⟩:=gY (w:=w) d u z;simp only[J5] at y;subst y;refine⟨{w with heap:=w.heap.setIfInBounds b (.map ((⟨c⟩:Array MapEntry).push {key:= .int j n,val:=q,born:=a}) (a+1))},?_,?_⟩
     .unfold Instr.mapUpdate;simp only[Sem.run_bind,run_underlying L,Result.andThen_ok,iY f,eQ d,G,pV f]
     .refine mJ F (by omega) E A ?_ rfl rfl rfl rfl;refine⟨_,fB.snoc u (k':= .int j n) (v':=q) (by simp only[aA]) M,?_⟩;simp
    .cases l
   .cases g
 .cases g
theorem M3 (q:Inv P B ρ h w) {a:Array TypeId} {ty t:TypeId} {m H k k':Value} {G:AH} (y:a[0]?=some t) (v:aA ρ m H) (u:aA ρ k k') (c:uN P h t m k=some G):
  ∃I,(Builtin.delete_ a ty ⟨[H,k']⟩).run P w= .ok (.tuple #[]) I/\fA P B ρ h w ρ G I:=by
 unfold uN at c
 split at c
 .rename_i e J n g;obtain⟨F,K,x,d⟩:=yW g;cases c;simp only[aA] at v u;subst v u;exact⟨w,by simp[Builtin.delete_,y,run_underlying x,eQ d],fA.refl q⟩
 .rename_i e r J n g;obtain⟨F,K,x,d⟩:=yW g;split at c
  .cases c
  .rename_i A;split at c
   .rename_i M f D;simp only[aA] at v u;subst u;obtain⟨b,s,z,rfl⟩:=v;obtain⟨N,j,l,p,rfl⟩:=q.gH _ _ D b s z;split at c
    .rename_i i v0 C;simp only[Option.some.injEq] at c;subst c;obtain⟨L,E,O,_,rfl⟩:=gY (w:=w) d p C;refine⟨{w with heap:=w.heap.setIfInBounds b (.map ((⟨l⟩:Array MapEntry).eraseIdxIfInBounds i) f)},?_,?_⟩
     .simp[Builtin.delete_,y,run_underlying x,eQ d,iY j,E,pV j]
     .refine mJ q (by omega) D z ?_ rfl rfl rfl rfl;refine⟨_,fB.erase i p,?_⟩;grind
    .rename_i C;simp only[Option.some.injEq] at c;subst c;obtain⟨L,E,o⟩:=gY (w:=w) d p C;simp only[J5] at o;subst o;refine⟨{w with heap:=w.heap.setIfInBounds b (.map ⟨l⟩ f)},?_,?_⟩
     .simp[Builtin.delete_,y,run_underlying x,eQ d,iY j,E,pV j]
     .exact mJ q (by omega) D z ⟨_,p,rfl⟩ rfl rfl rfl rfl
    .cases c
   .cases c
 .cases c
end
section
variable {P:Program} {B:Nat} {ρ:dR} {h:AH} {w:World}
theorem fG.map {α:Type} {f g:α->Value} (b:∀x,aA ρ (f x) (g x)) (a:Array α):fG ρ (a.map f) (a.map g):=by
 rw[dY];simp only[Array.toList_map];exact aC.sS b _
theorem Im {x e v:Value} (d:aA ρ x e) (b:strOf h x=some v):∃a n c,e= .slice a n c:=by
 unfold strOf at b;split at b;simp only[aA] at d;grind;rename_i a n c;obtain⟨_,_,sp⟩:=a;cases sp with
 |none=>simp only[aA] at d;grind
 |some _=>simp only[aA] at d;grind
 cases b
theorem yY {f:Value->ByteArray->Sem (ForInStep ByteArray)} (k:∀n s,f (.int .u8 n) s=pure (.yield (s.push (UInt8.ofNat n.toNat)))):∀(l g:List Value) (e:List UInt8) (s:ByteArray),aC ρ l g->qY l=some e->
  (forIn (m:=Sem) g s f).run P w= .ok ⟨⟨s.data.toList++e⟩⟩ w
 |[],g,e,s,d,c=>by
  simp only[aC] at d;subst d;simp only[qY,Option.some.injEq] at c;subst c;simp
 |v::l,g,e,s,d,c=>by
  simp only[aC] at d;obtain⟨q,p,j,o,rfl⟩:=d;simp only[qY] at c;split at c;rename_i b r a i;cases c;unfold byteOf at a;split at a;cases a;simp only[aA] at j;subst j;simp only[List.forIn_cons,Sem.run_bind,k,Sem.run_pure,Result.andThen_ok];rw[yY k l p r _ o i];simp;cases a;cases c
theorem Sb (r:Inv P B ρ h w) {x p v:Value} (e:aA ρ x p) (d:strOf h x=some v):∃m,(Conv.bytesToString p).run P w= .ok m w/\aA ρ v m:=by
 unfold strOf at d;split at d;cases d;simp only[aA] at e;subst e;exact⟨.string .empty,by simp[Conv.bytesToString],by simp only[aA]⟩;rename_i a n c;split at d;rename_i t;subst t;cases d;refine⟨.string .empty,?_,by simp only[aA]⟩;obtain⟨_,_,sp⟩:=a;cases sp with
 |none=>simp only[aA] at e;obtain⟨_,_,_,_,_,_,rfl⟩:=e;simp[Conv.bytesToString,loadCells,loadCellsFrom]
 |some _=>simp only[aA] at e;obtain⟨_,_,_,_,_,_,rfl⟩:=e;simp[Conv.bytesToString,loadCells,loadCellsFrom]
 simp only[Option.map_eq_some_iff,Option.bind_eq_some_iff] at d;obtain⟨j,⟨l,k,q⟩,rfl⟩:=d;obtain⟨i,o,sp⟩:=a;cases sp with
 |some _=>simp[aT] at k
 |none=>
  simp only[aA] at e;obtain⟨b,s,z,u,_,_,rfl⟩:=e;obtain⟨y,g,f,_,_⟩:=jF r (a:=⟨i,o,none⟩) u k;refine⟨.string ⟨⟨j⟩⟩,?_,by simp only[aA]⟩;simp only[Conv.bytesToString,Sem.run_bind,g,Result.andThen_ok];rw[<-Array.forIn_toList];simp only[Sem.run_pure];rw[yY (P:=P) (w:=w) (fun n s=>by rfl) l y j .empty f q];rfl
 cases d
set_option maxHeartbeats 1000000 in
theorem wY (S:Inv P B ρ h w) {V A:Operand->Value} (m:∀x,aA ρ (V x) (A x)) (o:Oper) {v:Value} (l:aH P V h o.op=some v):
  ∃F,(execOp A o).run P w= .ok (.value F) w/\aA ρ v F:=by
 obtain⟨dst,op,ty,pos,after,guard⟩:=o
 simp only at l
 cases op with
 |move x=>simp only[aH,Option.some.injEq] at l;subst l;exact⟨_,rfl,m x⟩
 |assign x=>simp only[aH,Option.some.injEq] at l;subst l;exact⟨_,rfl,m x⟩
 |pick c a b=>
  simp only[aH] at l
  split at l
  .rename_i t G;have q:=m c;rw[G] at q;simp only[aA] at q;simp only[Option.some.injEq] at l;subst l;refine⟨if t then A a else A b,?_,by cases t<;>simp[m]⟩;simp[execOp,q,asBool]
  .cases l
 |build t M=>
  simp only[aH] at l
  obtain⟨F,K,r⟩:=Jx (w:=w) (parts':=M.map fun p=>(p.1,A p.2)) (by
   simp only[Array.toList_map];exact C1.map (f:=fun p:Nat×Operand=>V p.2) (g:=fun p=>A p.2) (k:=fun p=>p.1) (fun p=>m p.2) _) l
  refine⟨F,?_,r⟩
  show(do pure (Next.value (<-Instr.build t (M.map fun(i,x)=>(i,A x)))):Sem Next).run P w=_
  simp_all
 |load t a=>
  simp only[aH] at l
  split at l
  .rename_i a0 N;have q:=m a;rw[N] at q;obtain⟨F,K,r⟩:=Bp S q l;exact⟨F,by simp[execOp,K],r⟩
  .cases l
 |nilCheck x=>
  simp only[aH] at l
  split at l
  .rename_i a N;have q:=m x;rw[N] at q;simp only[Option.some.injEq] at l;subst l;have D:=q;simp only[aA] at q;obtain⟨b,s,O,H⟩:=q;exact⟨A x,by simp[execOp,H],D⟩
  .rename_i f a b N;have q:=m x;rw[N] at q;simp only[Option.some.injEq] at l;subst l;have D:=q;simp only[aA,uJ] at q;obtain⟨_,_,_,rfl,_,_,H⟩:=q;exact⟨A x,by simp[execOp,H],D⟩
  .rename_i f a b N;have q:=m x;rw[N] at q;simp only[Option.some.injEq] at l;subst l;have D:=q;simp only[aA,uJ] at q;obtain⟨_,_,_,⟨_,_,_,rfl⟩,_,_,H⟩:=q;exact⟨A x,by simp[execOp,H],D⟩
  .cases l
 |binOp op t x y yt=>
  simp only[aH] at l
  obtain⟨F,K,r⟩:=Rs (P:=P) (w:=w) (m x) (m y) l
  refine⟨F,?_,r⟩
  show(do pure (Next.value (<-(do eqGuard op t x y (A x) (A y);binOp op t (A x) (A y)))):Sem Next).run P w=_
  rw[Sem.run_bind,K]
  rfl
 |unOp op t x=>
  simp only[aH] at l
  split at l
  .rename_i k n E;have q:=m x;rw[E] at q;simp only[aA] at q;simp only[Option.some.injEq] at l;subst l;exact⟨.int k (k.wrap (0 - n)),by simp[execOp,q,Op.unary,Op.intArith],by simp only[aA]⟩
  .rename_i b E;have q:=m x;rw[E] at q;simp only[aA] at q;simp only[Option.some.injEq] at l;subst l;exact⟨.bool !b,by simp[execOp,q,Op.unary],by simp only[aA]⟩
  .cases l
 |convert s d x=>
  simp only[aH] at l
  split at l
  .rename_i ds k _ n Q I E;have q:=m x;rw[E] at q;simp only[aA] at q;simp only[Option.some.injEq] at l;subst l;exact⟨.int k (k.wrap n),by simp[execOp,q,convert,run_underlying Q,run_underlying I,Conv.intToInt],by simp only[aA]⟩
  .rename_i z Q I E;have q:=m x;rw[E] at q;simp only[aA] at q;simp only[Option.some.injEq] at l;subst l;exact⟨.string z,by simp[execOp,q,convert,run_underlying Q,run_underlying I],by simp only[aA]⟩
  .rename_i e Q I;split at l
   .rename_i H;obtain⟨F,K,r⟩:=Sb S (m x) l;refine⟨F,?_,r⟩;have X:(convert s d (A x)).run P w= .ok F w:=by
     obtain⟨a,n,c,E⟩:=Im (m x) l;rw[E] at K ⊢;simp[convert,run_underlying Q,run_underlying I,run_underlying H,K]
    simp[execOp,X]
   .cases l
  .cases l
 |makeInterface t x=>
  simp only[aH] at l
  split at l
  .cases l
  .rename_i d I α;simp only[Option.some.injEq] at l;subst l;refine⟨.iface t (A x),?_,by simp only[aA];exact⟨_,m x,rfl⟩⟩;have:P.concrete t=true:=by
    unfold Program.concrete;rw[α];cases d<;>grind
   simp[execOp,run_makeInterface w t (A x) this]
  .cases l
 |makeFunc fn first L=>
  simp only[aH] at l
  split at l
  .rename_i f;simp only[Option.some.injEq] at l;subst l;refine⟨.func (.func f) (first.map A) (L.map A),by simp[execOp,Instr.makeFunc],?_⟩;simp only[aA,uJ];exact⟨_,_,_,rfl,fG.map m _,fG.map m _,rfl⟩
  .cases l
 |slice t x lo Z mx=>
  simp only[aH] at l
  obtain⟨F,K,r⟩:=Js S (m x) (rB.map m lo) (rB.map m Z) (rB.map m mx) l
  exact⟨F,by simp[execOp,K],r⟩
 |fieldAddr s x f=>
  simp only[aH] at l
  split at l
  .rename_i fs a I E;have q:=m x;rw[E] at q;simp only[aA] at q;obtain⟨b,sp,O,H⟩:=q;split at l
   .rename_i fd Y;split at l
    .cases l
    .rename_i hn;simp only[Option.some.injEq] at l;subst l;obtain⟨i,C,_⟩:=Cp hn;refine⟨.pointer (some (Addr.add ⟨b,a.off+sp.2,a.spot⟩ fd.offset)),?_,?_⟩
     .simp[execOp,H,Instr.fieldAt,run_underlying I,Y,Instr.sureAddr,fieldPlace,cU C,hn]
     .simp only[aA];refine⟨b,sp,?_,?_⟩
      .unfold Addr.add;split<;>exact O
      .unfold Addr.add;grind
   .cases l
  .cases l
 |field t x f=>
  simp only[aH] at l
  split at l
  .rename_i fs cs I E;have q:=m x;rw[E] at q;simp only[aA] at q;obtain⟨U,G,H⟩:=q;split at l
   .rename_i fd Y;obtain⟨F,K,r⟩:=oH (P:=P) (w:=w) l (dY.1 G);exact⟨F,by simp[execOp,H,Instr.field,run_underlying I,Y,asAgg,K],r⟩
   .cases l
  .cases l
 |indexAddr t x i=>
  simp only[aH] at l
  split at l
  .rename_i n e a k j I E J;have q:=m x;have D:=m i;rw[E] at q;rw[J] at D;simp only[aA] at q D;obtain⟨b,sp,O,H⟩:=q;split at l
   .rename_i G;simp only[Option.some.injEq] at l;subst l;obtain⟨inf,C⟩:=Option.isSome_iff_exists.1 G.2.2;refine⟨.pointer (some (Addr.add ⟨b,a.off+sp.2,a.spot⟩ (j.toNat*P.cellsOf e))),?_,?_⟩
    .simp[execOp,H,D,Instr.indexAt,asIntOf,run_underlying I,Instr.sureAddr,G.1,G.2.1,cU C]
    .simp only[aA];refine⟨b,sp,?_,?_⟩
     .unfold Addr.add;split<;>exact O
     .unfold Addr.add;grind
   .cases l
  .rename_i e a n c k j I E J;have q:=m x;have D:=m i;rw[E] at q;rw[J] at D;split at l
   .rename_i G;obtain⟨ab,ao,T⟩:=a;obtain rfl:T=none:=G.2.2.2;simp only[aA] at q D;obtain⟨b,sp,c',O,_,_,H⟩:=q;simp only[Option.some.injEq] at l;subst l;obtain⟨inf,C⟩:=Option.isSome_iff_exists.1 G.2.2.1;refine⟨.pointer (some (Addr.add ⟨b,ao+sp.2,none⟩ (j.toNat*P.cellsOf e))),?_,?_⟩
    .simp[execOp,H,D,Instr.indexAt,asIntOf,run_underlying I,G.1,G.2.1,cU C]
    .rw[cF,cF];simp only[aA];grind
   .cases l
  .cases l
 |index t x i=>
  simp only[aH] at l
  split at l
  .rename_i n e cs k j I E J;have q:=m x;have D:=m i;rw[E] at q;rw[J] at D;simp only[aA] at q D;obtain⟨U,W,H⟩:=q;split at l
   .rename_i G;obtain⟨inf,C⟩:=Option.isSome_iff_exists.1 G.2.2;obtain⟨F,K,r⟩:=oH (P:=P) (w:=w) l (dY.1 W);exact⟨F,by simp[execOp,H,D,Instr.index,asIntOf,run_underlying I,G.1,G.2.1,cU C,K],r⟩
   .cases l
  .rename_i s k j I E J;have q:=m x;have D:=m i;rw[E] at q;rw[J] at D;simp only[aA] at q D;split at l
   .rename_i G;simp only[Option.map_eq_some_iff] at l;obtain⟨u,hu,rfl⟩:=l;exact⟨.int .u8 u.toNat,by simp[execOp,q,D,Instr.index,asIntOf,run_underlying I,G,hu],by simp only[aA]⟩
   .cases l
  .cases l
 |extract t i=>
  simp only[aH] at l
  split at l
  .rename_i vs ht;have q:=m t;rw[ht] at q;simp only[aA] at q;obtain⟨β,G,H⟩:=q;obtain⟨F,R,r⟩:=(dY.1 G).get l;exact⟨F,by simp only[Array.getElem?_toList] at R;simp[execOp,H,Instr.extract,R],r⟩
  .cases l
 |lookup t x ix ok=>
  simp only[aH] at l
  obtain⟨F,K,r⟩:=Nl S (m x) (m ix) l
  exact⟨F,by simp[execOp,K],r⟩
 |_=>simp only[aH] at l;cases l
theorem oN (f:Nat->Value):(Array.range 0).map f= #[]:=by grind
theorem pH {z:List Value} {size:Nat} (c:z.length=size) (n:Nat):((Array.range (n*size)).map fun i=>(⟨z⟩:Array Value)[i % (⟨z⟩:Array Value).size]!)=⟨cS z n⟩:=by
 apply Array.ext';simp only[Array.toList_map,Array.toList_range];show(List.range (n*size)).map (fun i=>(⟨z⟩:Array Value)[i % z.length]!)=cS z n;subst c;induction n with
 |zero=>simp[cS]
 |succ n d=>
  rw[Nat.succ_mul,List.range_add,List.map_append,d];unfold cS;rw[List.replicate_succ',List.flatten_append];congr 1;simp only[List.flatten_cons,List.flatten_nil,List.append_nil,List.map_map];apply List.ext_getElem;simp;intro j a b;simp at a b;simp only[List.getElem_map,List.getElem_range,Function.comp];have e:(n*z.length+j) % z.length=j:=by rw[Nat.mul_comm,Nat.mul_add_mod,Nat.mod_eq_of_lt (by omega)]
  grind
theorem tE {z:List Value} (a:aC ρ z z) (n:Nat):aC ρ (cS z n) (cS z n):=by
 unfold cS;induction n with
 |zero=>exact aC.nil
 |succ n b=>rw[List.replicate_succ,List.flatten_cons];exact a.append b
theorem xQ {X d:Operand->Value} (q:∀x,aA ρ (X x) (d x)) (o:Oper) {b:hZ} {f:Nat->Value} (a:bT P X o.op=some (b,f)):
  ∃(o':Obj) (g:Nat->Value),mB P ρ (0,0) b o'/\(execOp d o).run P w= .ok (.value (g w.heap.size)) (w.alloc o')/\∀(ρ':dR) i s,s.2=0->ρ' i=some (w.heap.size,s)->aA ρ' (f i) (g w.heap.size):=by
 obtain⟨dst,op,ty,pos,after,guard⟩:=o
 simp only at a
 cases op with
 |alloc e=>
  simp only[bT,Option.map_eq_some_iff] at a
  obtain⟨z,T,a⟩:=a
  cases a
  obtain⟨i,N,M,_,v,j,D,y⟩:=lG (w:=w) T
  refine⟨.cells N.cells e,fun n=> .pointer (some ⟨n,0,none⟩),⟨N.cells,rfl,?_,?_,fun _=>⟨rfl,rfl,by rw[<-j];simp⟩⟩,?_,?_⟩
  .simp only[List.drop_zero];rw[j,List.take_of_length_le (Nat.le_refl _)];exact y ρ
  .rw[<-j];simp
  .simp[execOp,Instr.alloc,v,newVar,newRow]
  .intro ρ' i s C A;simp only[aA];exact⟨_,_,A,by rw[C]⟩
 |box e x=>
  simp only[bT,Option.map_eq_some_iff] at a
  obtain⟨l,F,a⟩:=a
  cases a
  unfold dS at F
  split at F
  .cases F
  .rename_i ht;cases F;have L:=(q x).cells (by simpa using ht);have γ:=L.length;refine⟨.cells (d x).cells e,fun n=> .pointer (some ⟨n,0,none⟩),⟨_,rfl,?_,?_,fun _=>⟨rfl,rfl,by grind⟩⟩,?_,?_⟩
   .grind
   .grind
   .simp[execOp,Instr.box,newVar,newRow]
   .intro ρ' i s C A;simp only[aA];exact⟨_,_,A,by rw[C]⟩
 |buildSlice t len m=>
  simp only[bT] at a
  split at a
  .rename_i e Q;split at a
   .rename_i z T;obtain⟨i,N,M,_,v,j,D,y⟩:=lG (w:=w) T;split at a
    .rename_i hle;simp only[Option.map_eq_some_iff] at a;obtain⟨l,F,a⟩:=a;cases a;obtain⟨W,Z,S⟩:=tP _ (m.map fun p=>(p.1,d p.2)).toList _ _ l (by
      simp only[Array.toList_map];exact C1.map (f:=fun p:Nat×Operand=>X p.2) (g:=fun p=>d p.2) (k:=fun p=>p.1) (fun p=>q p.2) _) (tE (y ρ) len) F
     have δ:=S.length
     have K:N.cells=⟨z⟩:=by rw[<-j]
     refine⟨.cells ⟨W⟩ e,fun n=> .slice (some ⟨n,0,none⟩) len len,⟨_,rfl,?_,?_,fun _=>⟨rfl,rfl,by show W.length=l.length;omega⟩⟩,?_,?_⟩
     .grind
     .show 0+l.length+0*_<=W.length;omega
     .have R:¬len*P.cellsOf e>2^24:=by omega
      have J:Instr.fill (fun i=>some (i*P.cellsOf e,P.cellsOf e)) ⟨cS z len⟩ (m.map fun(x:Nat×Operand)=>(x.1,d x.2)).toList=some ⟨W⟩:=Z
      show(do pure (Next.value (<-Instr.buildSlice t len (m.map fun(i,x)=>(i,d x)))):Sem Next).run P w=_
      simp only[Instr.buildSlice,Sem.run_bind,run_underlying Q,Result.andThen_ok,cU M,R,if_false]
      have L:=pH D len
      by_cases E:len*P.cellsOf e=0
      .have u:(⟨cS z len⟩:Array Value)= #[]:=by rw[<-L,E,oN]
       rw[u] at J
       simp only[E,if_true,Sem.run_bind,Sem.run_pure,Result.andThen_ok]
       rw[oN,J]
       simp[newRow]
      .simp only[E,if_false,Sem.run_bind,v,Sem.run_pure,Result.andThen_ok,K];rw[L,J];simp[newRow]
     .intro ρ' i s C A;simp only[aA];exact⟨_,_,_,A,Nat.le_refl _,Nat.le_add_right _ _,by rw[C]⟩
    .cases a
   .cases a
  .cases a
 |makeSlice t l c=>
  simp only[bT] at a
  split at a
  .rename_i e k1 U k2 cc Q F L;split at a
   .rename_i z T;obtain⟨i,N,M,_,v,j,D,y⟩:=lG (w:=w) T;split at a
    .rename_i H;obtain⟨E,V,h2,h3⟩:=H;simp only[Option.some.injEq,Prod.mk.injEq] at a;obtain⟨rfl,rfl⟩:=a;have I:=q l;have G:=q c;rw[F] at I;rw[L] at G;simp only[aA] at I G;have K:N.cells=⟨z⟩:=by rw[<-j]
     have hb:i.bytes=P.bytesOf e:=by simp[Program.bytesOf,M]
     refine⟨.cells ⟨cS z cc.toNat⟩ e,fun n=> .slice (some ⟨n,0,none⟩) U.toNat cc.toNat,⟨_,rfl,?_,?_,fun _=>⟨rfl,rfl,rfl⟩⟩,?_,?_⟩
     .simp only[List.drop_zero];rw[List.take_of_length_le (Nat.le_refl _)];exact tE (y ρ) _
     .show 0+(cS z cc.toNat).length+0*_<=(cS z cc.toNat).length;omega
     .have β:IntKind.i64.wrap U=U:=IntWalk.i64_in _ ⟨by omega,by omega⟩;have α:IntKind.i64.wrap cc=cc:=IntWalk.i64_in _ ⟨by omega,by omega⟩;have t1:(typeInfo e).run P w= .ok i w:=by simp[typeInfo,M]
      have Y:((decide (cc<0)||decide ((i.bytes:Int)*cc>2^48))||decide (U<0)||decide (U>cc))=false:=by
       grind
      simp only[execOp,I,G,Instr.makeSlice,Sem.run_bind,run_underlying Q,Result.andThen_ok,asInt,asIntOf,Sem.run_pure,t1,β,α,Y,Bool.false_eq_true,if_false,run_askRoom,cU M]
      have O:=pH D cc.toNat
      by_cases E:cc.toNat*P.cellsOf e=0
      .have u:(⟨cS z cc.toNat⟩:Array Value)= #[]:=by rw[<-O,E,oN]
       rw[u]
       simp only[E,if_true,Sem.run_bind,Sem.run_pure,Result.andThen_ok]
       rw[oN]
       simp[newRow]
      .simp only[E,if_false,Sem.run_bind,v,Sem.run_pure,Result.andThen_ok,K];rw[O];simp[newRow]
     .intro ρ' i s C A;simp only[aA];exact⟨_,_,_,A,Nat.le_refl _,Nat.le_add_right _ _,by rw[C]⟩
    .cases a
   .cases a
  .cases a
 |makeMap t r=>
  cases r with
  |none=>
   simp only[bT,Option.some.injEq,Prod.mk.injEq] at a
   obtain⟨rfl,rfl⟩:=a
   refine⟨.map #[] 0,fun n=> .map (some n),⟨[],rfl,rfl⟩,rfl,?_⟩
   intro ρ' i s C A;simp only[aA];grind
  |some x=>
   simp only[bT] at a
   split at a
   .rename_i ε elem k n Q hx;simp only[Option.some.injEq,Prod.mk.injEq] at a;obtain⟨rfl,rfl⟩:=a;have V:=q x;rw[hx] at V;simp only[aA] at V;refine⟨.map #[] 0,fun n=> .map (some n),⟨[],rfl,rfl⟩,by simp[execOp,Instr.makeMap,V,run_underlying Q,asInt,asIntOf],?_⟩;intro ρ' i s C A;simp only[aA];grind
   .cases a
 |_=>simp only[bT] at a;cases a
end
end Go.Ab
