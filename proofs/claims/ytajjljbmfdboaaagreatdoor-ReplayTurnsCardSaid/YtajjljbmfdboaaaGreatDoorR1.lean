/- A part of the proof. -/
import Derived.WalkKit
import Derived.AtR
import Derived.ChangeKeysEq
section
namespace Go.Ab
theorem aJ6.{u} {c:Prop} {_:Decidable c} (n:¬c) {α:Sort u} {t e:α}:ite c t e=e:=if_neg n
theorem aaa.{u} {c:Prop} {_:Decidable c} {α:Sort u} {t e:α}(n:¬c:=by omega):ite c t e=e:=if_neg n
theorem aJ7.{u} {c:Prop} {_:Decidable c} (n:c) {α:Sort u} {t e:α}:ite c t e=t:=if_pos n
theorem aac.{u} {c:Prop} {_:Decidable c} {α:Sort u} {t e:α}(n:c:=by omega):ite c t e=t:=if_pos n
end Go.Ab
namespace Go.Ab
noncomputable section
def top:Value:= .chan none
def yR:Value->Bool
 |.chan _=>true
 |_=>false
def eF:Value->Bool
 |.agg _|.tuple _|.chan _=>false
 |_=>true
mutual
def dT:Value->Bool
 |.bool _|.int _ _|.string _|.pointer none|.slice none _ _|.map none|.nilFunc|.nilIface=>true
 |.iface _ v=>dT v
 |.agg a=>vG a
 |.tuple a=>vG a
 |_=>false
def vG:Array Value->Bool
 |⟨l⟩=>lE l
def lE:List Value->Bool
 |[]=>true
 |v::l=>dT v&&lE l
end
abbrev iH:=Nat->Option (Nat×(Nat×Nat))
def Ef (ρ:iH):Fn->Fn->Prop
 |.yield l,g=>∃b s,ρ l=some (b,s)/\g= .yield b
 |f,g=>g=f
mutual
def aF (ρ:iH):Value->Value->Prop
 |.bool b,d=>d= .bool b
 |.int k n,d=>d= .int k n
 |.float k n,d=>d= .float k n
 |.complex k n m,d=>d= .complex k n m
 |.string s,d=>d= .string s
 |.pointer none,d=>d= .pointer none
 |.pointer (some a),d=>∃b s,ρ a.block=some (b,s)/\d= .pointer (some ⟨b,a.off+s.2,a.spot⟩)
 |.slice none l c,d=>d= .slice none l c
 |.slice (some ⟨i,o,some x⟩) l c,d=>l=0/\c=0/\∃q f,(x=1->f=0)/\(x=2->∃b s,ρ i=some (b,s)/\f<=s.1/\(0<f->q=⟨b,o+s.2,none⟩))/\d= .slice (some q) 0 f
 |.slice (some ⟨i,o,none⟩) l c,d=>∃b s f,ρ i=some (b,s)/\c<=f/\f<=c+s.1/\d= .slice (some ⟨b,o+s.2,none⟩) l f
 |.map none,d=>d= .map none
 |.map (some r),d=>∃b s,ρ r=some (b,s)/\d= .map (some b)
 |.chan none,_=>True
 |.chan (some _),_=>False
 |.func y z g,d=>∃j p e,Ef ρ y j/\lJ ρ z p/\lJ ρ g e/\d= .func j p e
 |.nilFunc,d=>d= .nilFunc
 |.iface t v,d=>∃u,aF ρ v u/\d= .iface t u
 |.nilIface,d=>d= .nilIface
 |.agg g,d=>∃e,lJ ρ g e/\d= .agg e
 |.tuple g,d=>∃e,lJ ρ g e/\d= .tuple e
def lJ (ρ:iH):Array Value->Array Value->Prop
 |⟨l⟩,a=>aZ ρ l a.toList
def aZ (ρ:iH):List Value->List Value->Prop
 |[],a=>a=[]
 |v::l,a=>∃c b,aF ρ v c/\aZ ρ l b/\a=c::b
end
inductive nI where
 |cells (c:List Value) (elem:TypeId) (fz:Nat×Nat) (exact:Bool)
 |loop (st:LoopState) (pending:Option Code) (fn:FuncId) (tmps:List Value) (params:Array Tmp) (assign body:Code) (defers:Nat)
 |marks (here:Bool)
 |map (es:List (Value×Value×Nat)) (clock:Nat)
 |mapIter (m:Option Nat) (since:Nat) (seen:List Nat) (last:Nat)
 |ae (s:ByteArray) (pos:Nat)
inductive Tr (α:Type) where
 |lf
 |nd (v:α) (l r:Tr α)
noncomputable def Tr.get {α:Type} (d:α) (t:Tr α):Nat->α:=
 Tr.rec (motive:=fun _=>Nat->α) (fun _=>d) (fun v _ _ gl gr n=>Nat.rec (motive:=fun _=>α) v (fun m _=>Nat.rec (motive:=fun _=>α) (gl (Nat.div m 2)) (fun _ _=>gr (Nat.div m 2)) (Nat.mod m 2)) n) t
noncomputable def Tr.path {α:Type} (d:α) (f:Nat):Nat->α->Tr α:=
 Nat.rec (motive:=fun _=>Nat->α->Tr α) (fun _ _=> .lf) (fun _ a n o=>Nat.rec (motive:=fun _=>Tr α) (.nd o .lf .lf) (fun m _=>Nat.rec (motive:=fun _=>Tr α) (.nd d (a (Nat.div m 2) o) .lf) (fun _ _=> .nd d .lf (a (Nat.div m 2) o)) (Nat.mod m 2)) n) f
noncomputable def Tr.set {α:Type} (d:α) (t:Tr α):Nat->α->Tr α:=
 Tr.rec (motive:=fun _=>Nat->α->Tr α) (fun n o=>Tr.path d (n+1) n o)
  (fun v l r a b n o=>Nat.rec (motive:=fun _=>Tr α) (.nd o l r) (fun m _=>Nat.rec (motive:=fun _=>Tr α) (.nd v (a (Nat.div m 2) o) r) (fun _ _=> .nd v l (b (Nat.div m 2) o)) (Nat.mod m 2)) n) t
theorem P8 {β:Type} (n:Nat) (a b:β):Nat.rec (motive:=fun _=>β) a (fun _ _=>b) (Nat.mod n 2)=if n % 2=0 then a else b:=by
 show Nat.rec (motive:=fun _=>β) a (fun _ _=>b) (n % 2)=_;cases n % 2<;>rfl
theorem Tr.Rg {α:Type} (d:α) (n:Nat):(Tr.lf:Tr α).get d n=d:=rfl
theorem Tr.Oe {α:Type} (d v:α) (l r:Tr α):(Tr.nd v l r).get d 0=v:=rfl
theorem Tr.Hw {α:Type} (d v:α) (l r:Tr α) (n:Nat):(Tr.nd v l r).get d (n+1)=if n % 2=0 then l.get d (n/2) else r.get d (n/2):=P8 _ _ _
theorem Tr.aEh {α:Type} (d:α) (f:Nat) (o:α):Tr.path d (f+1) 0 o= .nd o .lf .lf:=rfl
theorem Tr.aDm {α:Type} (d:α) (f n:Nat) (o:α):Tr.path d (f+1) (n+1) o=if n % 2=0 then .nd d (Tr.path d f (n/2) o) .lf else .nd d .lf (Tr.path d f (n/2) o):=P8 _ _ _
theorem Tr.aE9 {α:Type} (d:α) (n:Nat) (o:α):(Tr.lf:Tr α).set d n o=Tr.path d (n+1) n o:=rfl
theorem Tr.aGk {α:Type} (d v:α) (l r:Tr α) (o:α):(Tr.nd v l r).set d 0 o= .nd o l r:=rfl
theorem Tr.aFc {α:Type} (d v:α) (l r:Tr α) (n:Nat) (o:α):(Tr.nd v l r).set d (n+1) o=if n % 2=0 then .nd v (l.set d (n/2) o) r else .nd v l (r.set d (n/2) o):=P8 _ _ _
theorem Tr.Vs {α:Type} (d:α):∀(f n m:Nat) (o:α),n<f->(Tr.path d f n o).get d m=if m=n then o else d
 |0,n,_,_,h=>absurd h (Nat.not_lt_zero n)
 |f+1,0,m,o,_=>by
  rw[Tr.aEh];cases m with
  |zero=>simp[Tr.Oe]
  |succ m=>simp[Tr.Hw,Tr.Rg]
 |f+1,n+1,m,o,h=>by
  have c:=fun m=>Tr.Vs d f (n/2) m o (by omega);rw[Tr.aDm];by_cases b:n % 2=0;rw[aJ7 b];cases m with
  |zero=>simp[Tr.Oe]
  |succ m=>
   rw[Tr.Hw];by_cases a:m % 2=0;grind;rw[aJ6 a,Tr.Rg];grind
  rw[aJ6 b];cases m with
  |zero=>simp[Tr.Oe]
  |succ m=>
   rw[Tr.Hw];by_cases a:m % 2=0;rw[aJ7 a,Tr.Rg];grind;grind
theorem Tr.jO {α:Type} (d:α):∀(t:Tr α) (n m:Nat) (o:α),(t.set d n o).get d m=if m=n then o else t.get d m
 |.lf,n,m,o=>by rw[Tr.Rg,Tr.aE9];exact Tr.Vs d (n+1) n m o (Nat.lt_succ_self _)
 |.nd v l r,0,m,o=>by
  rw[Tr.aGk];cases m with
  |zero=>simp[Tr.Oe]
  |succ m=>simp[Tr.Hw]
 |.nd v l r,n+1,m,o=>by
  rw[Tr.aFc];by_cases b:n % 2=0;rw[aJ7 b];cases m with
  |zero=>simp[Tr.Oe]
  |succ m=>
   rw[Tr.Hw,Tr.Hw];by_cases a:m % 2=0;rw[aJ7 a,aJ7 a,Tr.jO d l];grind;grind
  rw[aJ6 b];cases m with
  |zero=>simp[Tr.Oe]
  |succ m=>
   rw[Tr.Hw,Tr.Hw];by_cases a:m % 2=0;grind;rw[aJ6 a,aJ6 a,Tr.jO d r];grind
structure AH where
 base:Nat
 next:Nat
 old:Nat->Option nI
 new:Tr (Option nI)
def AH.get (h:AH) (i:Nat):Option nI:=AH.rec (motive:=fun _=>Option nI) (fun a _ b new=>Bool.rec (motive:=fun _=>Option nI) (new.get none (Nat.sub i a)) (b i) (Nat.blt i a)) h
def AH.set (h:AH) (i:Nat) (o:Option nI):AH:=AH.rec (motive:=fun _=>AH) (fun a next b new=>Bool.rec (motive:=fun _=>AH) ⟨a,next,b,new.set none (Nat.sub i a) o⟩ ⟨a,next,b,new⟩ (Nat.blt i a)) h
def AH.alloc (h:AH) (o:nI):AH:=AH.rec (motive:=fun _=>AH) (fun a next b new=>⟨a,Nat.succ next,b,new.set none (Nat.sub next a) (some o)⟩) h
theorem AH.get_eq (h:AH) (i:Nat):h.get i=if i<h.base then h.old i else h.new.get none (i - h.base):=by
 obtain⟨a,next,b,new⟩:=h;simp only[AH.get];cases hb:Nat.blt i a with
 |true=>simp_all
 |false=>rw[aJ6 (by rw[<-Nat.blt_eq,hb];simp)];rfl
theorem AH.set_eq (h:AH) (i:Nat) (o:Option nI):h.set i o=if i<h.base then h else {h with new:=h.new.set none (i - h.base) o}:=by
 obtain⟨a,next,b,new⟩:=h;simp only[AH.set];cases hb:Nat.blt i a with
 |true=>simp_all
 |false=>rw[aJ6 (by rw[<-Nat.blt_eq,hb];simp)];rfl
theorem AH.alloc_eq (h:AH) (o:nI):h.alloc o={h with new:=h.new.set none (h.next - h.base) (some o),next:=h.next+1}:=rfl
theorem AH.jO {h:AH} {i j:Nat} {o:Option nI} (a:h.base<=i):(h.set i o).get j=if j=i then o else h.get j:=by
 rw[AH.set_eq,aJ6 (Nat.not_lt.2 a),AH.get_eq,AH.get_eq];by_cases b:j<h.base;grind;simp only[b,if_false,Tr.jO];grind
@[simp] theorem AH.Td {h:AH} {i:Nat} {o:Option nI}:(h.set i o).base=h.base:=by rw[AH.set_eq];split<;>rfl
@[simp] theorem AH.s7 {h:AH} {i:Nat} {o:Option nI}:(h.set i o).next=h.next:=by rw[AH.set_eq];split<;>rfl
@[simp] theorem AH.aDp {h:AH} {o:nI}:(h.alloc o).base=h.base:=rfl
@[simp] theorem AH.aCo {h:AH} {o:nI}:(h.alloc o).next=h.next+1:=rfl
theorem AH.vS {h:AH} {j:Nat} {o:nI} (hb:h.base<=h.next):(h.alloc o).get j=if j=h.next then some o else h.get j:=by
 rw[AH.alloc_eq,AH.get_eq,AH.get_eq];by_cases a:j<h.base;grind;simp only[a,if_false,Tr.jO];grind
def cC (c:List Value) (a:Nat) (xs:List Value):List Value:=c.take a++xs++c.drop (a+xs.length)
end
end Go.Ab
end
section
namespace Go.Ab
noncomputable section
def jH (P:Program) (t:TypeId):Option Bool:=
 (P.underlying t).map fun|.struct _|.array _ _=>true|_=>false
def zeroOf (P:Program) (t:TypeId):Option (List Value):=
 ((P.info? t).bind (·.zero)).bind fun z=>
  if dT z&&z.cells.toList.all eF&&z.cells.size==P.cellsOf t then some z.cells.toList else none
def bytesOf (P:Program) (t:TypeId):Nat:=P.bytesOf t
def cU (h:AH) (a:Addr) (n:Nat):Option (List Value):=
 if a.spot.isSome then none else
 match h.get a.block with
 |some (.cells c _ _ _)=>if a.off+n<=c.length then some ((c.drop a.off).take n) else none
 |_=>none
def vZ (P:Program) (h:AH) (t:TypeId) (a:Addr):Option Value:=
 match jH P t with
 |some true=>(cU h a (P.cellsOf t)).map fun l=> .agg ⟨l⟩
 |some false=>
  if a.spot.isSome then none else
  match h.get a.block with
  |some (.cells c _ _ _)=>c[a.off]?
  |_=>none
 |none=>none
def eA (h:AH) (a:Addr) (vs:List Value):Option AH:=
 if a.spot.isSome||a.block<h.base|| !vs.all eF then none else
 match h.get a.block with
 |some (.cells c e b x)=>if b.2=0/\a.off+vs.length<=c.length then some (h.set a.block (some (.cells (cC c a.off vs) e b x))) else none
 |_=>none
def iX (v:Value):Option (List Value):=if yR v then none else some v.cells.toList
def R7 (P:Program) (h:AH) (t:TypeId) (a:Addr) (v:Value):Option AH:=
 match iX v with
 |some b=>if b.length=P.cellsOf t/\(P.info? t).isSome then eA h a b else none
 |none=>none
def apart (P:Program) (t:TypeId) (cs:List Value) (a:Nat):Option Value:=
 match jH P t with
 |some true=>if a+P.cellsOf t<=cs.length then some (.agg ⟨(cs.drop a).take (P.cellsOf t)⟩) else none
 |some false=>cs[a]?
 |none=>none
def Fl (place:Nat->Option (Nat×Nat)) (cells:List Value):List (Nat×Value)->Option (List Value)
 |[]=>some cells
 |(i,v)::rest=>
  match place i,iX v with
  |some (a,size),some b=>if b.length=size/\a+b.length<=cells.length then Fl place (cC cells a b) rest else none
  |_,_=>none
def Lp (P:Program) (t:TypeId) (a:List (Nat×Value)):Option Value:=
 match zeroOf P t,P.underlying t with
 |some z,some (.struct b)=>
  if b.all (fun f=>(P.info? f.type).isSome) then(Fl (fun i=>(b[i]?).map fun f=>(f.offset,P.cellsOf f.type)) z a).map fun l=> .agg ⟨l⟩ else none
 |some z,some (.array _ e)=>
  if(P.info? e).isSome then(Fl (fun i=>some (i*P.cellsOf e,P.cellsOf e)) z a).map fun l=> .agg ⟨l⟩ else none
 |_,_=>none
def eJ (z:List Value) (n:Nat):List Value:=(List.replicate n z).flatten
def lI (v:Option Value) (a:Nat) (b:Nat):Option Nat:=
 match v with
 |none=>some a
 |some (.int _ i)=>if 0<=i/\i<=b then some i.toNat else none
 |some _=>none
def Ar (a:Addr):Value:= .slice (some ⟨a.block,a.off,some 2⟩) 0 0
def tF:Value:= .slice (some ⟨0,0,some 1⟩) 0 0
def aCy:Value:= .slice (some ⟨0,0,some 0⟩) 0 0
def qK (h:AH) (i:Nat):Option Bool:=match h.get i with|some (.cells _ _ _ x)=>some x|_=>none
def uY (P:Program) (h:AH) (t:TypeId) (x:Value) (g f d:Option Value):Option Value:=
 match P.underlying t,x with
 |some (.array n e),.pointer (some a)=>
  match lI d n n with
  |some m=>match(if f.isNone&&d.isSome then none else lI f n m) with
   |some c=>match lI g 0 c with
    |some l=>if(P.info? e).isSome/\a.spot=none then some (.slice (some (if m=l then a else a.add (l*P.cellsOf e))) (c - l) (m - l)) else none
    |none=>none
   |none=>none
  |none=>none
 |some .string,.string s=>
  if d.isSome then none else
  match lI f s.size s.size with
  |some c=>match lI g 0 c with
   |some l=>some (.string (s.extract l c))
   |none=>none
  |none=>none
 |some (.slice e),.slice none len b=>
  match lI d b b with
  |some m=>match(if f.isNone&&d.isSome then none else lI f len m) with
   |some c=>match lI g 0 c with
    |some l=>if(P.info? e).isSome then some (.slice none (c - l) (m - l)) else none
    |none=>none
   |none=>none
  |none=>none
 |some (.slice e),.slice (some a) len b=>
  match lI d b b with
  |some m=>match(if f.isNone&&d.isSome then none else lI f len m) with
   |some c=>match lI g 0 c with
    |some l=>
     if a.spot.isSome then(if(P.info? e).isSome/\len=0/\b=0 then some (if d.isSome then tF else aCy) else none) else
     if(P.info? e).isSome/\c<=m then
      (if m=l then
       if d.isSome then some tF else
       match qK h a.block with
       |some true=>some tF
       |some false=>some (Ar (a.add (l*P.cellsOf e)))
       |none=>none
      else some (.slice (some (a.add (l*P.cellsOf e))) (c - l) (m - l)))
     else none
    |none=>none
   |none=>none
  |none=>none
 |_,_=>none
def mG (P:Program) (eq:TypeId->Value->Value->Option Bool) (xs ys:List Value):List Field->Option Bool
 |[]=>some true
 |f::a=>
  if f.name="_" then mG P eq xs ys a else
  match apart P f.type xs f.offset,apart P f.type ys f.offset with
  |some x,some y=>match eq f.type x y with
   |some true=>mG P eq xs ys a
   |some false=>some false
   |none=>none
  |_,_=>none
def rD (P:Program) (eq:TypeId->Value->Value->Option Bool) (e:TypeId) (xs ys:List Value):List Nat->Option Bool
 |[]=>some true
 |i::is=>
  match apart P e xs (i*P.cellsOf e),apart P e ys (i*P.cellsOf e) with
  |some x,some y=>match eq e x y with
   |some true=>rD P eq e xs ys is
   |some false=>some false
   |none=>none
  |_,_=>none
def yZ (P:Program):Nat->TypeId->Value->Value->Option Bool
 |0,_,_,_=>none
 |d+1,t,x,y=>
  match P.underlying t,x,y with
  |some .bool,.bool a,.bool b=>some (a==b)
  |some (.int _),.int k a,.int i b=>if k=i then some (a==b) else none
  |some .string,.string a,.string b=>some (a==b)
  |some (.pointer _),.pointer none,.pointer b=>some b.isNone
  |some (.pointer _),.pointer (some _),.pointer none=>some false
  |some (.interface _),.nilIface,.nilIface=>some true
  |some (.interface _),.nilIface,.iface _ _=>some false
  |some (.interface _),.iface _ _,.nilIface=>some false
  |some (.struct g),.agg c,.agg f=>if P.stoodInHeld t then none else mG P (yZ P d) c.toList f.toList g.toList
  |some (.array n e),.agg c,.agg f=>if(P.info? e).isSome then rD P (yZ P d) e c.toList f.toList (List.range n) else none
  |some (.slice _),.slice none _ _,.slice b _ _=>some b.isNone
  |some (.slice _),.slice (some _) _ _,.slice none _ _=>some false
  |some (.map _ _),.map none,.map b=>some b.isNone
  |some (.map _ _),.map (some _),.map none=>some false
  |some (.func _ _ _),.nilFunc,.nilFunc=>some true
  |some (.func _ _ _),.nilFunc,.func _ _ _=>some false
  |some (.func _ _ _),.func _ _ _,.nilFunc=>some false
  |_,_,_=>none
def isConst:Operand->Bool
 |.const _=>true
 |_=>false
def Hr (P:Program) (t:TypeId) (x y:Operand) (a b:Value):Bool:=
 match a,b with
 |.nilIface,.nilIface=>isConst x||isConst y
 |.agg _,.agg _=> !P.eqGuardType P.depth t
 |_,_=>true
def aG1 (op:BinOp) (x y:Int):Option Bool:=
 match op with
 |.eql=>some (x==y)
 |.neq=>some (x !=y)
 |.lss=>some (decide (x<y))
 |.leq=>some (decide (x<=y))
 |.gtr=>some (decide (x>y))
 |.geq=>some (decide (x>=y))
 |_=>none
def Jz (op:BinOp) (k:IntKind) (x y:Int):Option Value:=
 if y<0 then none else
 match op with
 |.shl=>some (.int k (k.wrap (x*2^(min y.toNat k.bits))))
 |.shr=>some (.int k (x.fdiv (2^(min y.toNat k.bits))))
 |_=>none
def Nr (op:BinOp) (k:IntKind) (x y:Int):Option Value:=
 match op with
 |.add=>some (.int k (k.wrap (x+y)))
 |.sub=>some (.int k (k.wrap (x - y)))
 |.mul=>some (.int k (k.wrap (x*y)))
 |.quo=>if y=0 then none else some (.int k (k.wrap (x.tdiv y)))
 |.rem=>if y=0 then none else some (.int k (x.tmod y))
 |.eql|.neq|.lss|.leq|.gtr|.geq=>(aG1 op x y).map .bool
 |.shl|.shr=>Jz op k x y
 |.and=>some (.int k (k.wrap (BitVec.ofInt k.bits x&&&BitVec.ofInt k.bits y).toNat))
 |.or=>some (.int k (k.wrap (BitVec.ofInt k.bits x|||BitVec.ofInt k.bits y).toNat))
 |.xor=>some (.int k (k.wrap (BitVec.ofInt k.bits x^^^BitVec.ofInt k.bits y).toNat))
 |.andNot=>some (.int k (k.wrap (BitVec.ofInt k.bits x&&&~~~BitVec.ofInt k.bits y).toNat))
def aAe (op:BinOp) (x y:ByteArray):Option Value:=
 match op with
 |.add=>if x.size+y.size<=2^62 then some (.string (x++y)) else none
 |.eql=>some (.bool (x.toList==y.toList))
 |.neq=>some (.bool !(x.toList==y.toList))
 |.lss=>some (.bool (Op.bytesLess x.toList y.toList))
 |_=>none
def Vd (P:Program) (op:BinOp) (t:TypeId) (x y:Operand) (a b:Value):Option Value:=
 match a,b with
 |.int k m,.int c n=>if k=c then Nr op k m n else Jz op k m n
 |.string m,.string n=>aAe op m n
 |a,b=>
  match op with
  |.eql=>if Hr P t x y a b then(yZ P 10000 t a b).map .bool else none
  |.neq=>if Hr P t x y a b then(yZ P 10000 t a b).map fun e=> .bool !e else none
  |_=>none
def gQ (P:Program) (ev:Operand->Value):Op->Option (nI×(Nat->Value))
 |.alloc e=>(zeroOf P e).map fun z=>(.cells z e (0,0) true,fun i=> .pointer (some ⟨i,0,none⟩))
 |.box e x=>(iX (ev x)).map fun l=>(.cells l e (0,0) true,fun i=> .pointer (some ⟨i,0,none⟩))
 |.buildSlice t len a=>
  match P.underlying t with
  |some (.slice e)=>
   match zeroOf P e with
   |some z=>
    if len*P.cellsOf e<=2^24 then
     (Fl (fun i=>some (i*P.cellsOf e,P.cellsOf e)) (eJ z len) (a.toList.map fun p=>(p.1,ev p.2))).map fun l=>
      (.cells l e (0,0) true,fun i=> .slice (some ⟨i,0,none⟩) len len)
    else none
   |none=>none
  |_=>none
 |.makeSlice t l c=>match P.underlying t,ev l,ev c with
  |some (.slice e),.int _ l,.int _ c=>
   match zeroOf P e with
   |some z=>
    if 0<=l/\l<=c/\c<=2^40/\P.bytesOf e*c<=2^47 then
     some (.cells (eJ z c.toNat) e (0,0) true,fun i=> .slice (some ⟨i,0,none⟩) l.toNat c.toNat)
    else none
   |none=>none
  |_,_,_=>none
 |.makeMap t r=>match r with
  |none=>some (.map [] 0,fun i=> .map (some i))
  |some x=>match P.underlying t,ev x with
   |some (.map _ _),.int _ _=>some (.map [] 0,fun i=> .map (some i))
   |_,_=>none
 |_=>none
def G4 (P:Program) (t:TypeId):Option TypeId:=
 match P.underlying t with
 |some (.map a elem)=>match P.underlying a with
  |some (.int _)=>some elem
  |_=>none
 |_=>none
def wV (k:IntKind) (n:Int):List (Value×Value×Nat)->Nat->Option (Option (Nat×Value))
 |[],_=>some none
 |(.int j m,v,_)::a,i=>if k=j then(if n=m then some (some (i,v)) else wV k n a (i+1)) else none
 |_::_,_=>none
def zeroV (P:Program) (t:TypeId):Option Value:=((P.info? t).bind (·.zero)).bind fun z=>if dT z then some z else none
def Yi (h:AH):Value->Option (List (Value×Value×Nat))
 |.map none=>some []
 |.map (some r)=>match h.get r with
  |some (.map a _)=>some a
  |_=>none
 |_=>none
def xR (P:Program) (h:AH) (t:TypeId) (x ix:Value) (ok:Bool):Option Value:=
 match G4 P t,Yi h x,ix with
 |some e,some a,.int k n=>match wV k n a 0 with
  |some (some (_,v))=>some (if ok then .tuple ⟨[v,.bool true]⟩ else v)
  |some none=>(zeroV P e).map fun z=>if ok then .tuple ⟨[z,.bool false]⟩ else z
  |none=>none
 |_,_,_=>none
def yl (k:IntKind) (n:Int) (v:Value) (es:List (Value×Value×Nat)) (a:Nat):Option nI:=
 match wV k n es 0 with
 |some (some (i,_))=>some (.map (es.modify i fun e=>(.int k n,v,e.2.2)) a)
 |some none=>some (.map (es++[(.int k n,v,a)]) (a+1))
 |none=>none
def Ez (P:Program) (h:AH) (t:TypeId) (m b v:Value):Option AH:=
 match G4 P t,m,b with
 |some _,.map (some r),.int k n=>if r<h.base then none else match h.get r with
  |some (.map c a)=>(yl k n v c a).map fun o=>h.set r (some o)
  |_=>none
 |_,_,_=>none
def E8 (P:Program) (h:AH) (t:TypeId) (m c:Value):Option AH:=
 match G4 P t,m,c with
 |some _,.map none,.int _ _=>some h
 |some _,.map (some r),.int k n=>if r<h.base then none else match h.get r with
  |some (.map b a)=>match wV k n b 0 with
   |some (some (i,_))=>some (h.set r (some (.map (b.eraseIdx i) a)))
   |some none=>some (h.set r (some (.map b a)))
   |none=>none
  |_=>none
 |_,_,_=>none
def byteOf:Value->Option UInt8
 |.int .u8 n=>some (UInt8.ofNat n.toNat)
 |_=>none
def zH:List Value->Option (List UInt8)
 |[]=>some []
 |v::l=>match byteOf v,zH l with
  |some b,some r=>some (b::r)
  |_,_=>none
def strOf (h:AH):Value->Option Value
 |.slice none _ _=>some (.string .empty)
 |.slice (some a) n _=>if n=0 then some (.string .empty) else((cU h a n).bind zH).map fun l=> .string ⟨⟨l⟩⟩
 |_=>none
def bY (P:Program) (ev:Operand->Value) (h:AH):Op->Option Value
 |.move x=>some (ev x)
 |.assign x=>some (ev x)
 |.pick c a b=>match ev c with
  |.bool t=>some (if t then ev a else ev b)
  |_=>none
 |.build t j=>Lp P t (j.toList.map fun p=>(p.1,ev p.2))
 |.load t a=>match ev a with
  |.pointer (some a)=>vZ P h t a
  |_=>none
 |.nilCheck x=>match ev x with
  |.pointer (some a)=>some (.pointer (some a))
  |.func (.func f) a b=>some (.func (.func f) a b)
  |.func (.yield f) a b=>some (.func (.yield f) a b)
  |_=>none
 |.binOp op t x y _=>Vd P op t x y (ev x) (ev y)
 |.unOp op _ x=>match op,ev x with
  |.neg,.int k n=>some (.int k (k.wrap (0 - n)))
  |.not,.bool b=>some (.bool !b)
  |_,_=>none
 |.convert s d x=>match P.underlying s,P.underlying d,ev x with
  |some _,some (.int k),.int _ n=>some (.int k (k.wrap n))
  |some .string,some .string,.string z=>some (.string z)
  |some (.slice e),some .string,v=>(match P.underlying e with
   |some (.int .u8)=>strOf h v
   |_=>none)
  |_,_,_=>none
 |.makeInterface t x=>match P.underlying t with
  |some (.interface _)=>none
  |some _=>some (.iface t (ev x))
  |none=>none
 |.makeFunc o first g=>match o with
  |.func f=>some (.func (.func f) (first.map ev) (g.map ev))
  |_=>none
 |.slice t x r q u=>uY P h t (ev x) (r.map ev) (q.map ev) (u.map ev)
 |.fieldAddr s x f=>match P.underlying s,ev x with
  |some (.struct m),.pointer (some a)=>match m[f]? with
   |some fd=>if P.cellsOf fd.type=0 then none else some (.pointer (some (a.add fd.offset)))
   |none=>none
  |_,_=>none
 |.field t x f=>match P.underlying t,ev x with
  |some (.struct m),.agg l=>match m[f]? with
   |some fd=>apart P fd.type l.toList fd.offset
   |none=>none
  |_,_=>none
 |.indexAddr t x i=>match P.underlying t,ev x,ev i with
  |some (.array n e),.pointer (some a),.int _ i=>if 0<=i/\i<n/\(P.info? e).isSome then some (.pointer (some (a.add (i.toNat*P.cellsOf e)))) else none
  |some (.slice e),.slice (some a) n _,.int _ i=>if 0<=i/\i<n/\(P.info? e).isSome/\a.spot=none then some (.pointer (some (a.add (i.toNat*P.cellsOf e)))) else none
  |_,_,_=>none
 |.index t x i=>match P.underlying t,ev x,ev i with
  |some (.array n e),.agg l,.int _ i=>if 0<=i/\i<n/\(P.info? e).isSome then apart P e l.toList (i.toNat*P.cellsOf e) else none
  |some .string,.string s,.int _ i=>if 0<=i then(s[i.toNat]?).map fun b=> .int .u8 b.toNat else none
  |_,_,_=>none
 |.extract t i=>match ev t with
  |.tuple A=>A.toList[i]?
  |_=>none
 |.lookup t x ix ok=>xR P h t (ev x) (ev ix) ok
 |_=>none
inductive Kind where
 |zW|alloc|store|call|other
 deriving DecidableEq
def kindOf:Op->Kind
 |.move _|.assign _|.pick ..|.build ..|.load ..|.nilCheck _|.binOp ..|.unOp ..|.convert ..|.makeInterface ..|.makeFunc ..|.slice ..|.fieldAddr ..
 |.field ..|.indexAddr ..|.index ..|.extract ..|.lookup ..=> .zW
 |.alloc _|.box ..|.buildSlice ..|.makeSlice ..|.makeMap ..=> .alloc
 |.store ..|.mapUpdate ..=> .store
 |.call _=> .call
 |_=> .other
def gP (h:AH) (size n:Nat):Value->Option (List Value)
 |.slice none _ _=>if n=0 then some [] else none
 |.slice (some a) l _=>if n=0 then some [] else if n<=l then cU h a (n*size) else none
 |.string s=>if n<=s.size then some ((s.extract 0 n).data.toList.map fun b=> .int .u8 b.toNat) else none
 |_=>none
def vO:Value->Option Nat
 |.slice _ n _=>some n
 |.string s=>some s.size
 |_=>none
def I2 (P:Program) (a:Array TypeId):Bool:=
 match(a[1]?).bind P.underlying with
 |some (.slice _)|some .string=>true
 |_=>false
def Ip (P:Program) (h:AH) (d:Array TypeId) (s x:Value):Option (Value×AH):=
 match(d[0]?).bind P.underlying,s,vO x with
 |some (.slice e),.slice g b f,some n=>
  if !I2 P d then none else
  match zeroOf P e,gP h (P.cellsOf e) n x with
  |some _,some new=>
   if !new.all eF||new.length !=n*P.cellsOf e then none else
   if b+n<=f then
    match g with
    |none=>if n=0 then some (s,h) else none
    |some a=>if n=0 then some (s,h) else if a.spot.isSome then none else
     (eA h (a.add (b*P.cellsOf e)) new).map fun l=>(.slice g (b+n) f,l)
   else if(b+n)*(P.bytesOf e+1)<=2^46 then
    match g with
    |none=>if b=0 then some (.slice (some ⟨h.next,0,none⟩) n n,h.alloc (.cells new e (0,0) false)) else none
    |some a=>
     if a.spot=some 1 then(if b=0 then some (.slice (some ⟨h.next,0,none⟩) n n,h.alloc (.cells new e (0,0) false)) else none) else
     if a.spot=some 2 then
      (match h.get a.block with
      |some (.cells c j k _)=>
       if j=e/\h.base<=a.block/\k=(0,0)/\a.off<=c.length/\b=0/\f=0 then
        some (.slice (some ⟨h.next,0,none⟩) n n,(h.set a.block none).alloc (.cells new e (0,0) false))
       else none
      |_=>none) else
     match cU h a (b*P.cellsOf e),h.get a.block with
     |some i,some (.cells c j k x)=>
      if !i.all eF then none else
      if x then some (.slice (some ⟨h.next,0,none⟩) (b+n) (b+n),h.alloc (.cells (i++new) e (0,0) false))
      else if j=e/\h.base<=a.block/\k=(0,0)/\a.off+f*P.cellsOf e<=c.length then
       some (.slice (some ⟨h.next,0,none⟩) (b+n) (b+n),(h.set a.block none).alloc (.cells (i++new) e (0,0) false))
      else none
     |_,_=>none
   else none
  |_,_=>none
 |_,_,_=>none
def fC (P:Program) (h:AH) (b:Builtin) (c:Array TypeId) (args:List Value):Option (Value×AH):=
 match b,args with
 |.len,[x]=>match(c[0]?).bind P.underlying,x with
  |some .string,.string s=>some (.int .i64 s.size,h)
  |some (.array n _),_=>some (.int .i64 n,h)
  |some (.pointer e),_=>match P.underlying e with
   |some (.array n _)=>some (.int .i64 n,h)
   |_=>none
  |some (.slice _),.slice _ n _=>some (.int .i64 n,h)
  |some (.map _ _),x=>(Yi h x).map fun j=>(.int .i64 j.length,h)
  |_,_=>none
 |.append,[s,x]=>Ip P h c s x
 |.copy,[d,x]=>match(c[0]?).bind P.underlying,d,vO x with
  |some (.slice e),.slice g f _,some m=>
   if(P.info? e).isNone then none else
   match gP h (P.cellsOf e) (Nat.min m f) x with
   |some new=>match g with
    |none=>some (.int .i64 (Nat.min m f:Nat),h)
    |some a=>if Nat.min m f=0 then some (.int .i64 0,h) else(eA h a new).map fun i=>(.int .i64 (Nat.min m f:Nat),i)
   |none=>none
  |_,_,_=>none
 |.clear,[x]=>match(c[0]?).bind P.underlying,x with
  |some _,.slice none _ _=>some (.tuple #[],h)
  |some (.slice e),.slice (some a) n _=>
   if n=0 then some (.tuple #[],h) else
   match zeroOf P e with
   |some z=>(eA h a (eJ z n)).map fun i=>(.tuple #[],i)
   |none=>none
  |_,_=>none
 |.delete,[m,k]=>match c[0]? with
  |some t=>(E8 P h t m k).map fun i=>(.tuple #[],i)
  |none=>none
 |.min,[.int k x,.int _ y]=>some (.int k (if y<x then y else x),h)
 |.max,[.int k x,.int _ y]=>some (.int k (if y>x then y else x),h)
 |_,_=>none
end
end Go.Ab
end
section
namespace Go.Ab
open Go.RowKit
def Ext (ρ ρ':iH):Prop:=∀i x,ρ i=some x->ρ' i=some x
theorem Ext.refl (ρ:iH):Ext ρ ρ:=fun _ _ h=>h
theorem Ext.trans {a b c:iH} (h:Ext a b) (k:Ext b c):Ext a c:=fun i x d=>k i x (h i x d)
theorem Ef.mono {ρ ρ':iH} (h:Ext ρ ρ') {f g:Fn} (k:Ef ρ f g):Ef ρ' f g:=by
 cases f<;>simp only[Ef] at k ⊢<;>try exact k
 obtain⟨b,s,a,c⟩:=k;exact⟨b,s,h _ _ a,c⟩
mutual
theorem aF.mono {ρ ρ':iH} (h:Ext ρ ρ'):∀(v v':Value),aF ρ v v'->aF ρ' v v'
 |.bool _,_,k=>by simp only[aF] at k ⊢;exact k
 |.int _ _,_,k=>by simp only[aF] at k ⊢;exact k
 |.float _ _,_,k=>by simp only[aF] at k ⊢;exact k
 |.complex _ _ _,_,k=>by simp only[aF] at k ⊢;exact k
 |.string _,_,k=>by simp only[aF] at k ⊢;exact k
 |.pointer none,_,k=>by simp only[aF] at k ⊢;exact k
 |.pointer (some _),_,k=>by simp only[aF] at k ⊢;obtain⟨b,s,d,c⟩:=k;exact⟨b,s,h _ _ d,c⟩
 |.slice none _ _,_,k=>by simp only[aF] at k ⊢;exact k
 |.slice (some ⟨_,_,some _⟩) _ _,_,k=>by
  simp only[aF] at k ⊢;obtain⟨j,l,o,g,m,q,r⟩:=k;exact⟨j,l,o,g,m,fun x=>let⟨b,s,d,c⟩:=q x;⟨b,s,h _ _ d,c⟩,r⟩
 |.slice (some ⟨_,_,none⟩) _ _,_,k=>by simp only[aF] at k ⊢;obtain⟨b,s,g,d,c⟩:=k;exact⟨b,s,g,h _ _ d,c⟩
 |.map none,_,k=>by simp only[aF] at k ⊢;exact k
 |.map (some _),_,k=>by simp only[aF] at k ⊢;obtain⟨b,s,d,c⟩:=k;exact⟨b,s,h _ _ d,c⟩
 |.chan none,_,_=>by simp only[aF]
 |.chan (some _),_,k=>by simp only[aF] at k
 |.func _ p e,_,k=>by
  simp only[aF] at k ⊢;obtain⟨i,f,a,j,l,m,c⟩:=k;exact⟨i,f,a,j.mono h,lJ.mono h p f l,lJ.mono h e a m,c⟩
 |.nilFunc,_,k=>by simp only[aF] at k ⊢;exact k
 |.iface _ v,_,k=>by simp only[aF] at k ⊢;obtain⟨u,t,c⟩:=k;exact⟨u,aF.mono h v u t,c⟩
 |.nilIface,_,k=>by simp only[aF] at k ⊢;exact k
 |.agg e,_,k=>by simp only[aF] at k ⊢;obtain⟨a,n,c⟩:=k;exact⟨a,lJ.mono h e a n,c⟩
 |.tuple e,_,k=>by simp only[aF] at k ⊢;obtain⟨a,n,c⟩:=k;exact⟨a,lJ.mono h e a n,c⟩
theorem lJ.mono {ρ ρ':iH} (h:Ext ρ ρ'):∀(v v':Array Value),lJ ρ v v'->lJ ρ' v v'
 |⟨l⟩,a,k=>by simp only[lJ] at k ⊢;exact aZ.mono h l a.toList k
theorem aZ.mono {ρ ρ':iH} (h:Ext ρ ρ'):∀(l l':List Value),aZ ρ l l'->aZ ρ' l l'
 |[],_,k=>by simp only[aZ] at k ⊢;exact k
 |v::l,_,k=>by
  simp only[aZ] at k ⊢;obtain⟨b,a,c,d,e⟩:=k;exact⟨b,a,aF.mono h v b c,aZ.mono h l a d,e⟩
end
mutual
theorem hQ {ρ:iH}:∀(v:Value),dT v=true->aF ρ v v
 |.bool _,_=>by simp only[aF]
 |.int _ _,_=>by simp only[aF]
 |.float _ _,h=>by simp[dT] at h
 |.complex _ _ _,h=>by simp[dT] at h
 |.string _,_=>by simp only[aF]
 |.pointer none,_=>by simp only[aF]
 |.pointer (some _),h=>by simp[dT] at h
 |.slice none _ _,_=>by simp only[aF]
 |.slice (some _) _ _,h=>by simp[dT] at h
 |.map none,_=>by simp only[aF]
 |.map (some _),h=>by simp[dT] at h
 |.chan _,h=>by simp[dT] at h
 |.func _ _ _,h=>by simp[dT] at h
 |.nilFunc,_=>by simp only[aF]
 |.iface _ v,h=>by simp only[aF];simp only[dT] at h;exact⟨v,hQ v h,rfl⟩
 |.nilIface,_=>by simp only[aF]
 |.agg a,h=>by simp only[aF];simp only[dT] at h;exact⟨a,Jw a h,rfl⟩
 |.tuple a,h=>by simp only[aF];simp only[dT] at h;exact⟨a,Jw a h,rfl⟩
theorem Jw {ρ:iH}:∀(v:Array Value),vG v=true->lJ ρ v v
 |⟨l⟩,h=>by simp only[vG] at h;simp only[lJ];exact qC l h
theorem qC {ρ:iH}:∀(l:List Value),lE l=true->aZ ρ l l
 |[],_=>by simp only[aZ]
 |v::l,h=>by
  simp only[lE,Bool.and_eq_true] at h;simp only[aZ];exact⟨v,l,hQ v h.1,qC l h.2,rfl⟩
end
theorem jB {ρ:iH} {a b:Array Value}:lJ ρ a b↔aZ ρ a.toList b.toList:=by cases a;simp only[lJ]
section lists
variable {ρ:iH}
theorem aZ.nil:aZ ρ [] []:=by simp only[aZ]
theorem aZ.cons {v v':Value} {l l':List Value} (h:aF ρ v v') (k:aZ ρ l l'):aZ ρ (v::l) (v'::l'):=by
 simp only[aZ];grind
theorem aZ.To {v v':Value} {l l':List Value}:aZ ρ (v::l) (v'::l')↔aF ρ v v'/\aZ ρ l l':=by
 constructor;intro h;simp only[aZ] at h;grind;exact fun h=>aZ.cons h.1 h.2
theorem aZ.length:∀{l l':List Value},aZ ρ l l'->l'.length=l.length
 |[],l',h=>by simp only[aZ] at h;simp[h]
 |v::l,l',h=>by
  simp only[aZ] at h;obtain⟨c,b,_,a,rfl⟩:=h;simp[aZ.length a]
theorem aZ.get:∀{l l':List Value} {i:Nat} {v:Value},aZ ρ l l'->l[i]?=some v->∃a,l'[i]?=some a/\aF ρ v a
 |[],l',i,v,h,k=>by simp at k
 |u::l,l',0,v,h,k=>by
  simp only[aZ] at h;grind
 |u::l,l',i+1,v,h,k=>by
  simp only[aZ] at h;obtain⟨a,c,_,b,rfl⟩:=h;simp at k;simpa using aZ.get b k
theorem aZ.get_none {l l':List Value} {i:Nat} (h:aZ ρ l l') (k:l[i]?=none):l'[i]?=none:=by
 rw[List.getElem?_eq_none_iff] at k ⊢;rw[h.length];exact k
theorem aZ.getD {l l':List Value} (i:Nat) (h:aZ ρ l l'):aF ρ (l.getD i undef) (l'.getD i undef):=by
 cases k:l[i]? with
 |none=>
  have a:=h.get_none k;rw[List.getD_eq_getElem?_getD,List.getD_eq_getElem?_getD,k,a];exact hQ undef (by simp[undef,dT,vG,lE])
 |some v=>
  obtain⟨d,c,b⟩:=h.get k;grind
theorem aZ.append:∀{l l' m a:List Value},aZ ρ l l'->aZ ρ m a->aZ ρ (l++m) (l'++a)
 |[],l',m,a,h,k=>by simp only[aZ] at h;subst h;exact k
 |v::l,l',m,a,h,k=>by
  simp only[aZ] at h;obtain⟨e,d,b,c,rfl⟩:=h;exact aZ.cons b (aZ.append c k)
theorem aZ.take:∀{l l':List Value} (n:Nat),aZ ρ l l'->aZ ρ (l.take n) (l'.take n)
 |_,_,0,_=>by simp[aZ.nil]
 |[],l',n+1,h=>by simp only[aZ] at h;subst h;exact aZ.nil
 |v::l,l',n+1,h=>by
  simp only[aZ] at h;obtain⟨d,c,a,b,rfl⟩:=h;exact aZ.cons a (aZ.take n b)
theorem aZ.drop:∀{l l':List Value} (n:Nat),aZ ρ l l'->aZ ρ (l.drop n) (l'.drop n)
 |_,_,0,h=>by simpa using h
 |[],l',n+1,h=>by simp only[aZ] at h;subst h;exact aZ.nil
 |v::l,l',n+1,h=>by
  simp only[aZ] at h;obtain⟨d,c,b,a,rfl⟩:=h;exact aZ.drop n a
theorem aZ.set:∀{l l':List Value} (i:Nat) {v v':Value},aZ ρ l l'->aF ρ v v'->aZ ρ (l.set i v) (l'.set i v')
 |[],l',i,v,v',h,k=>by simp only[aZ] at h;subst h;exact aZ.nil
 |u::l,l',0,v,v',h,k=>by
  simp only[aZ] at h;obtain⟨d,c,b,a,rfl⟩:=h;exact aZ.cons k a
 |u::l,l',i+1,v,v',h,k=>by
  simp only[aZ] at h;obtain⟨d,c,b,a,rfl⟩:=h;exact aZ.cons b (aZ.set i a k)
theorem aZ.cC {l l' m a:List Value} (i:Nat) (h:aZ ρ l l') (k:aZ ρ m a):aZ ρ (cC l i m) (cC l' i a):=by
 unfold Ab.cC;rw[k.length];exact((h.take i).append k).append (h.drop _)
theorem aZ.replicate {v v':Value} (n:Nat) (h:aF ρ v v'):aZ ρ (List.replicate n v) (List.replicate n v'):=by
 induction n with
 |zero=>exact aZ.nil
 |succ n a=>exact aZ.cons h a
theorem aZ.Dq {α:Type} {f g:α->Value} (h:∀x,aF ρ (f x) (g x)):∀l:List α,aZ ρ (l.map f) (l.map g)
 |[]=>aZ.nil
 |x::l=>aZ.cons (h x) (aZ.Dq h l)
end lists
section Nf
variable {ρ:iH}
theorem aF.cells {v v':Value} (h:aF ρ v v') (k:yR v=false):aZ ρ v.cells.toList v'.cells.toList:=by
 cases v with
 |agg n=>simp only[aF] at h;obtain⟨g,j,rfl⟩:=h;exact jB.1 j
 |chan r=>simp[yR] at k
 |pointer a=>
  have d:=h;cases a with
  |none=>simp only[aF] at h;subst h;exact aZ.cons d aZ.nil
  |some a=>simp only[aF] at h;obtain⟨b,s,e,rfl⟩:=h;exact aZ.cons d aZ.nil
 |slice a l c=>
  have d:=h;cases a with
  |none=>simp only[aF] at h;subst h;exact aZ.cons d aZ.nil
  |some a=>
   obtain⟨i,o,sp⟩:=a;cases sp with
   |none=>simp only[aF] at h;obtain⟨b,s,f,e,_,_,rfl⟩:=h;exact aZ.cons d aZ.nil
   |some _=>simp only[aF] at h;obtain⟨_,_,m,f,_,_,rfl⟩:=h;exact aZ.cons d aZ.nil
 |map r=>
  have d:=h;cases r with
  |none=>simp only[aF] at h;subst h;exact aZ.cons d aZ.nil
  |some a=>simp only[aF] at h;obtain⟨b,s,e,rfl⟩:=h;exact aZ.cons d aZ.nil
 |func p a b=>have d:=h;simp only[aF] at h;obtain⟨_,_,_,_,_,_,rfl⟩:=h;exact aZ.cons d aZ.nil
 |iface t v=>have d:=h;simp only[aF] at h;obtain⟨_,_,rfl⟩:=h;exact aZ.cons d aZ.nil
 |tuple t=>have d:=h;simp only[aF] at h;obtain⟨_,_,rfl⟩:=h;exact aZ.cons d aZ.nil
 |_=>have d:=h;simp only[aF] at h;subst h;exact aZ.cons d aZ.nil
theorem aF.Q1 {v v':Value} (h:aF ρ v v') (hc:eF v=true):v'.oneCell'=true:=by
 cases v with
 |agg g=>simp[eF] at hc
 |chan r=>simp[eF] at hc
 |tuple t=>simp[eF] at hc
 |pointer a=>cases a with
  |none=>simp only[aF] at h;subst h;rfl
  |some a=>simp only[aF] at h;obtain⟨b,s,d,rfl⟩:=h;rfl
 |slice a l c=>cases a with
  |none=>simp only[aF] at h;subst h;rfl
  |some a=>
   obtain⟨i,o,sp⟩:=a
   cases sp with
   |none=>simp only[aF] at h;obtain⟨b,s,e,d,_,_,rfl⟩:=h;rfl
   |some _=>simp only[aF] at h;obtain⟨_,_,f,e,_,_,rfl⟩:=h;rfl
 |map r=>cases r with
  |none=>simp only[aF] at h;subst h;rfl
  |some a=>simp only[aF] at h;obtain⟨b,s,d,rfl⟩:=h;rfl
 |func j a b=>simp only[aF] at h;obtain⟨_,_,_,_,_,_,rfl⟩:=h;rfl
 |iface t v=>simp only[aF] at h;obtain⟨_,_,rfl⟩:=h;rfl
 |_=>simp only[aF] at h;subst h;rfl
end Nf
def kS (ρ:iH):List (Value×Value×Nat)->List MapEntry->Prop
 |[],a=>a=[]
 |(k,v,n)::l,a=>∃b c t,aF ρ k b/\aF ρ v c/\kS ρ l t/\a={key:=b,val:=c,born:=n}::t
theorem kS.mono {ρ ρ':iH} (h:Ext ρ ρ'):∀(l:List (Value×Value×Nat)) (es:List MapEntry),kS ρ l es->kS ρ' l es
 |[],_,k=>k
 |(_,_,_)::l,_,⟨e,f,t,a,b,c,d⟩=>⟨e,f,t,aF.mono h _ _ a,aF.mono h _ _ b,kS.mono h l t c,d⟩
def uF (P:Program) (ρ:iH) (s:Nat×Nat):nI->Obj->Prop
 |.cells c e n x,o=>∃i:Array Value,o= .cells i e n/\aZ ρ c ((i.toList.drop s.2).take c.length)/\s.2+c.length+s.1*P.cellsOf e<=i.size/\(x=true->s.1=0/\s.2=0)
 |.loop st iS fn tmps params assign body d,o=>∃a k p,aZ ρ tmps a/\ρ d=some (k,p)/\
   o= .loop {state:=st,pending:=iS,fn:=fn,tmps:=⟨a⟩,params:=params,assign:=assign,body:=body,defers:=k}
 |.marks here,o=>o= .deferred (if here then some [] else none)
 |.map l f,o=>∃g,kS ρ l g/\o= .map ⟨g⟩ f
 |.mapIter m since seen last,o=>∃j,(match m with|none=>j=none|some r=>∃b s,ρ r=some (b,s)/\j=some b)/\o= .mapIter j since ⟨seen⟩ last
 |.ae s pos,o=>o= .stringIter s pos
theorem uF.mono {P:Program} {ρ ρ':iH} (h:Ext ρ ρ') {s:Nat×Nat} {b:nI} {o:Obj} (k:uF P ρ s b o):uF P ρ' s b o:=by
 cases b with
 |cells c e D x=>obtain⟨n,a,f,i⟩:=k;exact⟨n,a,aZ.mono h _ _ f,i⟩
 |loop st iS C l params assign j d=>obtain⟨z,q,y,a,f,i⟩:=k;exact⟨z,q,y,aZ.mono h _ _ a,h _ _ f,i⟩
 |marks _=>exact k
 |map A c=>obtain⟨g,a,f⟩:=k;exact⟨g,kS.mono h _ _ a,f⟩
 |mapIter m _ _ _=>
  obtain⟨v,a,f⟩:=k;refine⟨v,?_,f⟩;cases m with
  |none=>exact a
  |some r=>obtain⟨b,s,t,u⟩:=a;exact⟨b,s,h _ _ t,u⟩
 |ae s p=>exact k
structure Inv (P:Program) (B:Nat) (ρ:iH) (h:AH) (w:World):Prop where
 rI:∀i o,h.get i=some o->∀b s,ρ i=some (b,s)->∃o',w.heap[b]?=some o'/\uF P ρ s o o'
 inj:∀i j b si sj,h.base<=i->h.base<=j->(h.get i).isSome->(h.get j).isSome->ρ i=some (b,si)->ρ j=some (b,sj)->i=j
 low:∀i b s,h.base<=i->(h.get i).isSome->ρ i=some (b,s)->B<=b
 old:∀i b s,i<h.base->ρ i=some (b,s)->b<B
 fresh:∀i,h.next<=i->ρ i=none
 iE:∀i,h.next<=i->h.get i=none
 pW:∀g,g<P.globals.size->ρ g=some (g,(0,0))
 size:B<=w.heap.size
 bn:h.base<=h.next
structure lN (P:Program) (B:Nat) (ρ:iH) (h:AH) (w:World) (ρ':iH) (h':AH) (w':World):Prop where
 ext:Ext ρ ρ'
 inv:Inv P B ρ' h' w'
 un:∀i,i<h.next->ρ i=none->ρ' i=none
 nC:∀i,i<h.next->ρ i=none->h'.get i=h.get i
 stay:∀i,i<h.next->h.get i=none->h'.get i=none
 frame:∀b,b<w.heap.size->(∀i s,h.base<=i->(h.get i).isSome->ρ i≠some (b,s))->w'.heap[b]?=w.heap[b]?
 range:∀i b s,h.base<=i->(h'.get i).isSome->ρ' i=some (b,s)->b<w.heap.size->∃j s',h.base<=j/\(h.get j).isSome/\ρ j=some (b,s')
 base:h'.base=h.base
 wN:∀i,i<h.base->h'.get i=h.get i
 next:h.next<=h'.next
 size:w.heap.size<=w'.heap.size
 os:w'.os=w.os
 out:w'.output=w.output
 tape:w'.tape=w.tape
theorem lN.refl {P:Program} {B:Nat} {ρ:iH} {h:AH} {w:World} (d:Inv P B ρ h w):lN P B ρ h w ρ h w where
 ext:=Ext.refl ρ
 inv:=d
 un:=fun _ _ h=>h
 nC:=fun _ _ _=>rfl
 stay:=fun _ _ e=>e
 frame:=fun _ _ _=>rfl
 range:=fun i _ s a b c _=>⟨i,s,a,b,c⟩
 base:=rfl
 wN:=fun _ _=>rfl
 next:=Nat.le_refl _
 size:=Nat.le_refl _
 os:=rfl
 out:=rfl
 tape:=rfl
theorem lN.trans {P:Program} {B:Nat} {ρ ρ1 ρ2:iH} {h o p:AH} {w r t:World} (a:lN P B ρ h w ρ1 o r) (b:lN P B ρ1 o r ρ2 p t):lN P B ρ h w ρ2 p t where
 ext:=a.ext.trans b.ext
 inv:=b.inv
 un:=fun i c d=>b.un i (Nat.lt_of_lt_of_le c a.next) (a.un i c d)
 nC:=fun i c d=>(b.nC i (Nat.lt_of_lt_of_le c a.next) (a.un i c d)).trans (a.nC i c d)
 stay:=fun i c d=>b.stay i (Nat.lt_of_lt_of_le c a.next) (a.stay i c d)
 frame:=fun x f d=>by
  refine(b.frame x (Nat.lt_of_lt_of_le f a.size) ?_).trans (a.frame x f d);intro i s l n m;rw[a.base] at l;obtain⟨j,q,e,g,k⟩:=a.range i x s l n m f;grind
 range:=fun i x s l n m f=>by
  obtain⟨j,q,e,g,k⟩:=b.range i x s (by rw[a.base];exact l) n m (Nat.lt_of_lt_of_le f a.size);rw[a.base] at e;exact a.range j x q e g k f
 base:=b.base.trans a.base
 wN:=fun i c=>(b.wN i (by rw[a.base];exact c)).trans (a.wN i c)
 next:=Nat.le_trans a.next b.next
 size:=Nat.le_trans a.size b.size
 os:=b.os.trans a.os
 out:=b.out.trans a.out
 tape:=b.tape.trans a.tape
theorem lN.below {P:Program} {B:Nat} {ρ ρ':iH} {h h':AH} {w w':World} (a:Inv P B ρ h w) (e:lN P B ρ h w ρ' h' w'):Below B w w':=
 ⟨e.os,e.tape,e.out,e.size,fun k b=>e.frame k (Nat.lt_of_lt_of_le b a.size) fun i s c f d=>absurd (a.low i k s c f d) (Nat.not_le.2 b)⟩
end Go.Ab
end
namespace Go.Ab
open Go.RowKit
section
variable {P:Program} {B:Nat} {ρ:iH} {h:AH} {w:World}
def uL (ρ:iH) (i:Nat) (x:Nat×(Nat×Nat)):iH:=fun j=>if j=i then some x else ρ j
theorem bV {i:Nat} {x:Nat×(Nat×Nat)}:uL ρ i x i=some x:=by simp[uL]
theorem cA {i j:Nat} {x:Nat×(Nat×Nat)} (h:j≠i):uL ρ i x j=ρ j:=by simp[uL,h]
theorem Ext.uL {i:Nat} {x:Nat×(Nat×Nat)} (h:ρ i=none):Ext ρ (uL ρ i x):=by
 intro j y a;by_cases e:j=i;grind;rw[cA e];exact a
theorem Bs (c:Inv P B ρ h w) {o:nI} {o':Obj} {s:Nat×Nat} {w':World} (hb:uF P (uL ρ h.next (w.heap.size,s)) s o o')
  (l:w'.heap=w.heap.push o') (C:w'.os=w.os) (u:w'.output=w.output) (q:w'.tape=w.tape):
  lN P B ρ h w (uL ρ h.next (w.heap.size,s)) (h.alloc o) w':=by
 have k:Ext ρ (uL ρ h.next (w.heap.size,s)):=Ext.uL (c.fresh _ (Nat.le_refl _))
 have a:∀j,(h.alloc o).get j=if j=h.next then some o else h.get j:=fun j=>AH.vS c.bn
 have K:∀i b G,ρ i=some (b,G)->i<h.next:=fun i b G m=>by
  rcases Nat.lt_or_ge i h.next with x|x
  exact x;rw[c.fresh i x] at m;cases m
 refine {ext:=k,inv:=?_,un:=?_,nC:=?_,stay:=fun j O r=>by grind,frame:=?_,range:=?_,base:=rfl,wN:=?_,next:=by simp,size:=by rw[l];simp,os:=C,out:=u,tape:=q}
 .refine {rI:=?_,inj:=?_,low:=?_,old:=?_,fresh:=?_,iE:=?_,pW:=?_,size:=by rw[l];simp;exact Nat.le_succ_of_le c.size,bn:=Nat.le_succ_of_le c.bn}
  .intro i L p b s1 m;rw[a] at p;by_cases e:i=h.next
   .subst e;rw[aJ7 rfl] at p;cases p;rw[bV] at m;grind
   .rw[aJ6 e] at p;rw[cA e] at m;obtain⟨D,E,J⟩:=c.rI i L p b s1 m;refine⟨D,?_,J.mono k⟩;grind
  .intro i j b H I f y gi t d v;rw[a] at gi t;by_cases e:i=h.next
   .by_cases n:j=h.next
    .rw[e,n]
    .rw[aJ6 n] at t;rw[cA n] at v;obtain⟨N,A⟩:=Option.isSome_iff_exists.1 t;obtain⟨D,E,_⟩:=c.rI j N A b I v;subst e;rw[bV] at d;grind
   .rw[aJ6 e] at gi;rw[cA e] at d;by_cases n:j=h.next
    .obtain⟨M,z⟩:=Option.isSome_iff_exists.1 gi;obtain⟨D,E,_⟩:=c.rI i M z b H d;subst n;rw[bV] at v;grind
    .rw[aJ6 n] at t;rw[cA n] at v;exact c.inj i j b H I f y gi t d v
  .intro i b s1 f gi d;rw[a] at gi;by_cases e:i=h.next
   .subst e;rw[bV] at d;cases d;exact c.size
   .rw[aJ6 e] at gi;rw[cA e] at d;exact c.low i b s1 f gi d
  .intro i b s1 f d;have e:i≠h.next:=fun e=>by have:=c.bn;simp at f;omega
   rw[cA e] at d
   exact c.old i b s1 f d
  .intro i r;simp at r;rw[cA (by omega)];exact c.fresh i (by omega)
  .intro i r;simp at r;rw[a,aaa];exact c.iE i (by omega)
  .intro g p;have:=c.pW g p;exact k _ _ this
 .intro i r m;rw[cA (by omega)];exact m
 .grind
 .grind
 .intro i b s1 f gi d F;rw[a] at gi;by_cases e:i=h.next
  .subst e;rw[bV] at d;cases d;omega
  .rw[aJ6 e] at gi;rw[cA e] at d;grind
 .intro i r;rw[a,aJ6 (by have:=c.bn;omega)]
theorem xM (d:Inv P B ρ h w) {i b:Nat} {s:Nat×Nat} {F o:nI} {o':Obj} {w':World} (p:h.base<=i) (t:h.get i=some F) (C:ρ i=some (b,s)) (hb:uF P ρ s o o')
  (f:w'.heap=w.heap.setIfInBounds b o') (A:w'.os=w.os) (u:w'.output=w.output) (q:w'.tape=w.tape):
  lN P B ρ h w ρ (h.set i (some o)) w':=by
 have n:∀j,(h.set i (some o)).get j=if j=i then some o else h.get j:=fun j=>AH.jO p
 have c:∀j,((h.set i (some o)).get j).isSome->(h.get j).isSome:=fun j a=>by
  grind
 obtain⟨R,z,_⟩:=d.rI i F t b s C
 have I:b<w.heap.size:=(Array.getElem?_eq_some_iff.1 z).1
 have J:i<h.next:=by
  rcases Nat.lt_or_ge i h.next with v|v
  exact v;rw[d.iE i v] at t;cases t
 refine {ext:=Ext.refl _,inv:=?_,un:=fun _ _ h=>h,nC:=?_,stay:=fun j a Q=>by grind,frame:=?_,range:=?_,base:=AH.Td,wN:=?_,next:=by simp,size:=by rw[f];simp,os:=A,out:=u,tape:=q}
 .refine {rI:=?_,inj:=?_,low:=?_,old:=?_,fresh:=?_,iE:=?_,pW:=d.pW,size:=by rw[f];simp;exact d.size,bn:=by simp;exact d.bn}
  .intro j M m D l g;rw[n] at m;by_cases e:j=i
   .grind
   .rw[aJ6 e] at m;obtain⟨L,O,H⟩:=d.rI j M m D l g;refine⟨L,?_,H⟩;have K:b≠D:=by
     intro y;subst y;rcases Nat.lt_or_ge j h.base with x|x;have:=d.old j b l x g;have:=d.low i b s p (by rw[t];rfl) C;omega;exact e (d.inj j i b l s x p (by rw[m];rfl) (by rw[t];rfl) g C)
    grind
  .intro j k r l sk a E m G g N;simp at a E;exact d.inj j k r l sk a E (c j m) (c k G) g N
  .intro j r l a m g;simp at a;exact d.low j r l a (c j m) g
  .intro j r l a g;simp at a;exact d.old j r l a g
  .intro j a;simp at a;exact d.fresh j a
  .intro j a;simp at a;rw[n,aaa];exact d.iE j a
 .grind
 .grind
 .grind
 grind
theorem Ta (d:Inv P B ρ h w) {i b:Nat} {s s':Nat×Nat} {Q o:nI} {o':Obj} {w':World} (t:h.base<=i) (A:h.get i=some Q) (L:ρ i=some (b,s)) (hb:uF P (uL ρ h.next (b,s')) s' o o')
  (u:w'.heap=w.heap.setIfInBounds b o') (K:w'.os=w.os) (D:w'.output=w.output) (v:w'.tape=w.tape):
  lN P B ρ h w (uL ρ h.next (b,s')) ((h.set i none).alloc o) w':=by
 have n:Ext ρ (uL ρ h.next (b,s')):=Ext.uL (d.fresh _ (Nat.le_refl _))
 have l:∀j,((h.set i none).alloc o).get j=if j=h.next then some o else if j=i then none else h.get j:=fun j=>by
  rw[AH.vS (by simp;exact d.bn),AH.jO t];simp
 obtain⟨Z,J,_⟩:=d.rI i Q A b s L
 have S:b<w.heap.size:=(Array.getElem?_eq_some_iff.1 J).1
 have U:i<h.next:=by
  rcases Nat.lt_or_ge i h.next with E|E
  exact E;rw[d.iE i E] at A;cases A
 have G:=d.low i b s t (by rw[A];rfl) L
 have p:∀j x c,j≠h.next->((h.set i none).alloc o).get j≠none->ρ j=some (x,c)->(h.get j).isSome/\j≠i/\b≠x:=by
  intro j x c e m a;rw[l,aJ6 e] at m;by_cases z:j=i;grind;rw[aJ6 z] at m;have O:(h.get j).isSome:=by cases T:h.get j with|none=>exact absurd T m|some _=>rfl
  refine⟨O,z,?_⟩;intro H;subst H;rcases Nat.lt_or_ge j h.base with F|F;have:=d.old j b c F a;omega;exact z (d.inj j i b c s F t O (by rw[A];rfl) a L)
 refine {ext:=n,inv:=?_,un:=?_,nC:=?_,stay:=fun j f N=>by grind,frame:=?_,range:=?_,base:=by simp,wN:=?_,next:=by simp,size:=by rw[u];simp,os:=K,out:=D,tape:=v}
 .refine {rI:=?_,inj:=?_,low:=?_,old:=?_,fresh:=?_,iE:=?_,pW:=fun g I=>n _ _ (d.pW g I),size:=by grind,bn:=by simp;grind}
  .intro j W m x c a;by_cases e:j=h.next
   .subst e;rw[l,aJ7 rfl] at m;cases m;rw[bV] at a;grind
   .rw[cA e] at a;obtain⟨_,z,C⟩:=p j x c e (by rw[m];simp) a;rw[l,aJ6 e,aJ6 z] at m;obtain⟨V,Y,R⟩:=d.rI j W m x c a;exact⟨V,by grind,R.mono n⟩
  .intro j k q c sk f M m X a y;simp at f M;by_cases e:j=h.next
   .by_cases r:k=h.next
    .rw[e,r]
    .rw[cA r] at y;obtain⟨_,_,C⟩:=p k q sk r (by grind) y;subst e;rw[bV] at a;grind
   .rw[cA e] at a;obtain⟨s1,_,C⟩:=p j q c e (by grind) a;by_cases r:k=h.next
    .subst r;rw[bV] at y;grind
    .rw[cA r] at y;obtain⟨s2,_,_⟩:=p k q sk r (by grind) y;exact d.inj j k q c sk f M s1 s2 a y
  .intro j q c f m a;simp at f;by_cases e:j=h.next
   .subst e;rw[bV] at a;cases a;exact G
   .rw[cA e] at a;obtain⟨s1,_,_⟩:=p j q c e (by grind) a;exact d.low j q c f s1 a
  .intro j q c f a;simp at f;have e:j≠h.next:=by have:=d.bn;omega
   rw[cA e] at a
   exact d.old j q c f a
  .intro j f;simp at f;rw[cA (by omega)];exact d.fresh j (by omega)
  .intro j f;simp at f;rw[l,aaa,aaa];exact d.iE j (by omega)
 .intro j f N;rw[cA (by omega)];exact N
 .grind
 .grind
 .intro j q c f m a _;by_cases e:j=h.next
  .subst e;rw[bV] at a;grind
  .rw[cA e] at a;grind
 grind
theorem dE (b o n:Nat):Addr.add ⟨b,o,none⟩ n=⟨b,o+n,none⟩:=by
 unfold Addr.add;grind
theorem vM {b e o:Nat} {c:Array Value} {fz:Nat×Nat} (hb:w.heap[b]?=some (.cells c e fz)):w.cell? ⟨b,o,none⟩=c[o]?:=by
 simp[World.cell?,hb]
theorem qL (p:Inv P B ρ h w) {a:Addr} {b n:Nat} {s:Nat×Nat} {l:List Value} (r:ρ a.block=some (b,s)) (d:cU h a n=some l):
  ∃k,(loadCells ⟨b,a.off+s.2,none⟩ n).run P w= .ok ⟨k⟩ w/\aZ ρ l k/\a.spot=none/\l.length=n:=by
 unfold cU at d
 cases hs:a.spot with
 |some x=>simp[hs] at d
 |none=>
  simp only[hs,Option.isSome_none,Bool.false_eq_true,if_false] at d
  split at d
  .rename_i c e u x o;split at d
   .rename_i hle;cases d;obtain⟨A,q,f,rfl,g,t,_⟩:=p.rI _ _ o b s r;have i:=g.length;have m:(f.toList.drop s.2).length=f.size - s.2:=by simp
    refine⟨(((f.toList.drop s.2).take c.length).drop a.off).take n,?_,(g.drop _).take _,rfl,by simp;omega⟩
    have z:((((f.toList.drop s.2).take c.length).drop a.off).take n).length=n:=by
     grind
    have:=run_loadCells_list (P:=P) (w:=w) ⟨b,a.off+s.2,none⟩ ((((f.toList.drop s.2).take c.length).drop a.off).take n) (fun j v y=>by
     rw[dE,vM q];grind)
    grind
   .cases d
  .cases d
theorem oB {b e:Nat} {fz:Nat×Nat} (l:fz.2=0):∀(vs:List Value) (w:World) (c:Array Value) (a i:Nat),w.heap[b]?=some (.cells c e fz)->(∀v∈vs,v.oneCell'=true)->a+i+vs.length<=c.size->
  ∃f,(storeCells ⟨b,a,none⟩ vs i).run P w= .ok () f/\f.heap=w.heap.setIfInBounds b (.cells ⟨cC c.toList (a+i) vs⟩ e fz)/\f.os=w.os/\f.output=w.output/\f.tape=w.tape
 |[],w,c,a,i,k,_,_=>by
  refine⟨w,by simp[storeCells],?_,rfl,rfl,rfl⟩;simp only[cC,List.append_nil,List.length_nil,Nat.add_zero,List.take_append_drop];obtain⟨d,m⟩:=Array.getElem?_eq_some_iff.1 k;apply Array.ext_getElem?;intro j;by_cases g:b=j;subst g;simp[d,m];grind
 |v::vs,w,c,a,i,k,q,o=>by
  simp only[List.length_cons] at o;have x:w.cell? ⟨b,a+i,none⟩=some c[a+i]:=by rw[vM k];grind
  have y:w.frozen? ⟨b,a+i,none⟩=false:=by simp[World.frozen?,k,l]
  have n:(w.setCell ⟨b,a+i,none⟩ v).heap[b]?=some (.cells (c.setIfInBounds (a+i) v) e fz):=by
   simp[World.setCell,Array.getElem?_modify,k]
  obtain⟨f,z,r,s,p,t⟩:=oB l vs (w.setCell ⟨b,a+i,none⟩ v) (c.setIfInBounds (a+i) v) a (i+1) n (fun u p=>q u (List.mem_cons_of_mem _ p)) (by simp;omega);refine⟨f,?_,?_,s,p,t⟩;simp only[storeCells,Sem.run_bind];rw[dE,run_store P w _ v _ (q v List.mem_cons_self)];simp_all;rw[r];apply Array.ext_getElem?;intro j;by_cases g:b=j;subst g;have d:=(Array.getElem?_eq_some_iff.1 k).1;simp only[World.setCell];rw[Array.getElem?_setIfInBounds_self,Array.getElem?_setIfInBounds_self];simp only[Array.size_modify,d,if_true];congr 2;apply Array.ext';simp only[cC,Array.toList_setIfInBounds,List.length_cons];rw[show a+(i+1)=a+i+1 by omega,List.take_succ_eq_append_getElem (by simp;omega)];simp only[List.getElem_set_self,List.append_assoc,List.nil_append,List.take_set_of_le (Nat.le_refl _),List.cons_append];rw[List.drop_set_of_lt (by omega),show a+i+1+vs.length=a+i+(vs.length+1) by omega];rw[Array.getElem?_setIfInBounds_ne g,Array.getElem?_setIfInBounds_ne g];simp[World.setCell,Array.getElem?_modify,g]
theorem Bn (I:Inv P B ρ h w) {a:Addr} {b:Nat} {s:Nat×Nat} {vs d:List Value} {h':AH} (J:ρ a.block=some (b,s)) (g:eA h a vs=some h') (E:aZ ρ vs d):
  ∃A,(storeCells ⟨b,a.off+s.2,none⟩ d).run P w= .ok () A/\lN P B ρ h w ρ h' A/\a.spot=none:=by
 unfold eA at g
 split at g
 .cases g
 rename_i f
 simp only[Bool.or_eq_true,not_or,Bool.not_eq_true,decide_eq_false_iff_not,Bool.not_eq_false'] at f
 obtain⟨⟨z,l⟩,p⟩:=f
 have z:a.spot=none:=by cases S:a.spot with|none=>rfl|some _=>rw[S] at z;cases z
 split at g
 .rename_i c e Q x H;split at g
  .rename_i hle;cases g;obtain⟨Y,U,k,rfl,G,V,X⟩:=I.rI _ _ H b s J;have i:=G.length;have W:=E.length;have r:∀v∈d,v.oneCell'=true:=by
    intro v F;obtain⟨j,T⟩:=List.getElem?_of_mem F;have q:j<vs.length:=by
     grind
    obtain⟨u,K,D⟩:=E.get (List.getElem?_eq_getElem q);rw[T] at K;cases K;exact D.Q1 (List.all_eq_true.1 p _ (List.getElem_mem q))
   simp only[List.length_take] at i
   obtain⟨A,y,m,C,t,n⟩:=oB (P:=P) hle.1 d w k (a.off+s.2) 0 U r (by simp at i ⊢;omega)
   refine⟨A,y,xM I (Nat.not_lt.1 l) H J (o:= .cells (cC c a.off vs) e Q x) ⟨_,rfl,?_,?_,X⟩ m C t n,z⟩
   .have:((cC k.toList (a.off+s.2+0) d).drop s.2).take (cC c a.off vs).length=cC ((k.toList.drop s.2).take c.length) a.off d:=by
     have R:(cC k.toList (a.off+s.2+0) d).drop s.2=cC (k.toList.drop s.2) a.off d:=by
      unfold cC;simp only[Nat.add_zero];rw[List.append_assoc,List.drop_append_of_le_length (by simp;omega),List.drop_take,List.drop_drop,List.append_assoc];rw[show a.off+s.2 - s.2=a.off by omega,show s.2+(a.off+d.length)=a.off+s.2+d.length by omega]
     rw[R];unfold cC;rw[List.take_append,List.take_append];simp only[List.length_append,List.length_take,List.length_drop,List.take_take];have L:min a.off c.length=a.off:=by omega
     have M:a.off+vs.length+(c.length - (a.off+vs.length))=c.length:=by omega
     rw[L,M];have N:min c.length a.off=a.off:=by omega
     have O:min a.off (k.toList.length - s.2)=a.off:=by grind
     rw[N,O];congr 1;congr 1;rw[List.take_of_length_le (by omega)];grind
    show aZ ρ _ (((cC k.toList (a.off+s.2+0) d).drop s.2).take (cC c a.off vs).length)
    rw[this]
    exact G.cC _ E
   .simp only[cC,List.length_append,List.length_take,List.length_drop] at*;grind
  .cases g
 .cases g
end
section
variable {P:Program} {B:Nat} {ρ:iH} {h:AH} {w:World}
theorem Ns {t:TypeId} (a:P.cellsOf t≠0):∃i,P.info? t=some i/\i.size=P.cellsOf t:=by
 unfold Program.cellsOf at a ⊢;cases hi:P.info? t with
 |none=>simp[hi] at a
 |some i=>grind
theorem gA {t:TypeId} {i:TypeInfo} (a:P.info? t=some i):(sizeOf t).run P w= .ok (P.cellsOf t) w:=by
 simp[sizeOf,typeInfo,a,Program.cellsOf]
theorem H5 {t:TypeId} {d:TypeDesc} (a:P.underlying t=some d):∃i,P.info? t=some i:=by
 unfold Program.underlying at a;grind
theorem Iw {t:TypeId} {b:Bool} (hb:jH P t=some b):(isAgg t).run P w= .ok b w:=by
 unfold jH at hb;cases hd:P.underlying t with
 |none=>simp[hd] at hb
 |some d=>
  rw[hd] at hb;simp only[Option.map_some,Option.some.injEq] at hb;unfold isAgg;simp only[Sem.run_bind,run_underlying hd,Result.andThen_ok];subst hb;cases d<;>rfl
theorem Ts {t:TypeId} {b:Bool} (hb:jH P t=some b):∃i,P.info? t=some i:=by
 unfold jH at hb;cases hd:P.underlying t with
 |none=>simp[hd] at hb
 |some d=>exact H5 hd
theorem tS {e:TypeId} {z:List Value} (a:zeroOf P e=some z):
  ∃i b,P.info? e=some i/\i.zero=some b/\(zeroValue e).run P w= .ok b w/\b.cells.toList=z/\z.length=P.cellsOf e/\(∀ρ:iH,aZ ρ z z):=by
 unfold zeroOf at a
 cases hi:P.info? e with
 |none=>simp[hi] at a
 |some i=>
  cases hz0:i.zero with
  |none=>simp[hi,hz0] at a
  |some b=>
   simp only[hi,hz0,Option.bind_some] at a
   split at a
   .rename_i c;simp only[Bool.and_eq_true,beq_iff_eq] at c;cases a;refine⟨i,b,rfl,hz0,by simp[zeroValue,typeInfo,hi,hz0],rfl,by simpa using c.2,fun ρ=>?_⟩;have d:=hQ (ρ:=ρ) b c.1.1;exact d.cells (by cases b<;>first|rfl|simp[dT] at c)
   .cases a
theorem xB {t:TypeId} {cs d:List Value} {c:Nat} {v:Value} (a:apart P t cs c=some v) (hc:aZ ρ cs d):
  ∃e,(part t ⟨d⟩ c).run P w= .ok e w/\aF ρ v e:=by
 unfold apart at a
 cases hb:jH P t with
 |none=>simp[hb] at a
 |some b=>
  obtain⟨i,g⟩:=Ts hb
  rw[hb] at a
  cases b with
  |true=>
   simp only at a
   split at a
   .cases a;refine⟨.agg ⟨(d.drop c).take (P.cellsOf t)⟩,?_,?_⟩
    .simp only[part,Sem.run_bind,Iw hb,Result.andThen_ok,if_true,gA g,Sem.run_pure];grind
    .simp only[aF];exact⟨_,by simp only[lJ];exact(hc.drop c).take _,rfl⟩
   .cases a
  |false=>
   simp only at a
   obtain⟨e,f,j⟩:=hc.get a
   refine⟨e,?_,j⟩
   simp only[part,Sem.run_bind,Iw hb,Result.andThen_ok]
   simp[f]
theorem I9 (r:Inv P B ρ h w) {t:TypeId} {a:Addr} {p v:Value} (q:aF ρ (.pointer (some a)) p) (f:vZ P h t a=some v):
  ∃o,(Instr.loadAt t p).run P w= .ok o w/\aF ρ v o:=by
 simp only[aF] at q
 obtain⟨b,s,u,rfl⟩:=q
 unfold vZ at f
 cases hb:jH P t with
 |none=>simp[hb] at f
 |some x=>
  obtain⟨i,m⟩:=Ts hb
  rw[hb] at f
  cases x with
  |true=>
   simp only[Option.map_eq_some_iff] at f
   obtain⟨l,C,rfl⟩:=f
   obtain⟨F,n,d,k,_⟩:=qL r u C
   refine⟨.agg ⟨F⟩,?_,?_⟩
   .rw[k];simp only[Instr.loadAt,Instr.sureAddr,loadVar,Sem.run_bind,Sem.run_pure,Result.andThen_ok,Iw hb,if_true,gA m,n]
   .simp only[aF];exact⟨_,by simp only[lJ];exact d,rfl⟩
  |false=>
   simp only at f
   split at f
   .cases f
   .rename_i k;have k:a.spot=none:=by cases A:a.spot with|none=>rfl|some _=>rw[A] at k;exact absurd rfl k
    split at f
    .rename_i c e H x z;obtain⟨I,D,G,rfl,y,E,_⟩:=r.rI _ _ z b s u;obtain⟨o,g,d⟩:=y.get f;refine⟨o,?_,d⟩;have j:w.cell? ⟨b,a.off+s.2,none⟩=some o:=by
      rw[vM D];rw[List.getElem?_take] at g;split at g;rw[List.getElem?_drop] at g;rw[Nat.add_comm];simpa using g;cases g
     rw[k]
     simp only[Instr.loadAt,Instr.sureAddr,loadVar,Sem.run_bind,Sem.run_pure,Result.andThen_ok,Iw hb]
     simp[j]
    .cases f
theorem T2 (q:Inv P B ρ h w) {t:TypeId} {a:Addr} {l v v':Value} {h':AH} (m:aF ρ (.pointer (some a)) l) (u:aF ρ v v') (f:R7 P h t a v=some h'):
  ∃k,(Instr.storeAt t l v').run P w= .ok () k/\lN P B ρ h w ρ h' k:=by
 simp only[aF] at m
 obtain⟨b,s,r,rfl⟩:=m
 unfold R7 iX at f
 cases ht:yR v with
 |true=>simp[ht] at f
 |false=>
  simp only[ht,Bool.false_eq_true,if_false] at f
  split at f
  .rename_i p;obtain⟨n,d⟩:=p;obtain⟨i,j⟩:=Option.isSome_iff_exists.1 d;have c:=u.cells ht;obtain⟨k,o,g,e⟩:=Bn q r f c;refine⟨k,?_,g⟩;rw[e];have x:=c.length;simp only[Instr.storeAt,Instr.sureAddr,storeVar,Sem.run_bind,Sem.run_pure,Result.andThen_ok,gA j];grind
  .cases f
def Nq (ρ:iH):List (Nat×Value)->List (Nat×Value)->Prop
 |[],l=>l=[]
 |(i,v)::l,b=>∃a t,aF ρ v a/\Nq ρ l t/\b=(i,a)::t
theorem Hi:∀(vs:List Value) (c:Array Value) (a i:Nat),a+i+vs.length<=c.size->
  ((vs.zipIdx i).foldl (fun d (x:Value×Nat)=>d.setIfInBounds (a+x.2) x.1) c)=⟨cC c.toList (a+i) vs⟩
 |[],c,a,i,_=>by
  apply Array.ext';simp[cC]
 |v::vs,c,a,i,b=>by
  simp only[List.length_cons] at b;simp only[List.zipIdx_cons,List.foldl_cons];rw[Hi vs (c.setIfInBounds (a+i) v) a (i+1) (by simp;omega)];congr 1;simp only[cC,Array.toList_setIfInBounds,List.length_cons];rw[show a+(i+1)=a+i+1 by omega,List.take_succ_eq_append_getElem (by simp;omega)];simp only[List.getElem_set_self,List.append_assoc,List.nil_append,List.take_set_of_le (Nat.le_refl _),List.cons_append];rw[List.drop_set_of_lt (by omega),show a+i+1+vs.length=a+i+(vs.length+1) by omega]
theorem Eo {place:Nat->Option (Nat×Nat)}:∀(b parts':List (Nat×Value)) (cells a r:List Value),Nq ρ b parts'->aZ ρ cells a->Fl place cells b=some r->
  ∃m,Instr.fill place ⟨a⟩ parts'=some ⟨m⟩/\aZ ρ r m
 |[],parts',cells,a,r,f,l,e=>by
  simp only[Nq] at f;subst f;simp only[Fl,Option.some.injEq] at e;subst e;exact⟨a,rfl,l⟩
 |(i,v)::b,parts',cells,a,r,f,l,e=>by
  simp only[Nq] at f;obtain⟨y,t,x,u,rfl⟩:=f;simp only[Fl] at e;split at e;rename_i k size z n d;unfold iX at d;split at d;cases d;rename_i j;cases d;split at e;rename_i p;have c:=x.cells (by simpa using j);have s:=c.length;have q:=l.length;obtain⟨m,o,g⟩:=Eo b t _ _ r u (l.cC k c) e;refine⟨m,?_,g⟩;simp only[Instr.fill,n];simp only[Array.length_toList] at s p;rw[aJ6];rw[<-Array.foldl_toList,Array.toList_zipIdx];rw[Hi y.cells.toList ⟨a⟩ k 0 (by simp;omega)];simpa using o;grind;cases e;cases e
theorem Nq.map {α:Type} {f g:α->Value} {k:α->Nat} (a:∀x,aF ρ (f x) (g x)):∀l:List α,Nq ρ (l.map fun p=>(k p,f p)) (l.map fun p=>(k p,g p))
 |[]=>rfl
 |x::l=>⟨g x,_,a x,Nq.map a l,rfl⟩
theorem Jk:∀(fs:List Field),(∀f∈fs,(P.info? f.type).isSome)->
  (fs.mapM (m:=Sem) fun f=>do pure (f.offset,<-sizeOf f.type)).run P w= .ok (fs.map fun f=>(f.offset,P.cellsOf f.type)) w
 |[],_=>by simp
 |f::fs,a=>by
  obtain⟨i,c⟩:=Option.isSome_iff_exists.1 (a f List.mem_cons_self);simp only[List.mapM_cons,Sem.run_bind,gA c,Result.andThen_ok,Sem.run_pure,Jk fs (fun g b=>a g (List.mem_cons_of_mem _ b)),List.map_cons]
theorem Uu {t:TypeId} {a:List (Nat×Value)} {parts':Array (Nat×Value)} {v:Value} (D:Nq ρ a parts'.toList) (c:Lp P t a=some v):
  ∃E,(Instr.build t parts').run P w= .ok E w/\aF ρ v E:=by
 unfold Lp at c
 split at c
 .rename_i z q y r;obtain⟨i,C,_,_,j,g,_,k⟩:=tS (w:=w) y;split at c
  .rename_i o;simp only[Option.map_eq_some_iff] at c;obtain⟨l,u,rfl⟩:=c;obtain⟨A,p,b⟩:=Eo a parts'.toList z z l D (k ρ) u;refine⟨.agg ⟨A⟩,?_,by simp only[aF];exact⟨_,by simp only[lJ];exact b,rfl⟩⟩;have d:C.cells=⟨z⟩:=by rw[<-g]
   have x:(q.mapM (m:=Sem) fun f=>do pure (f.offset,<-sizeOf f.type)).run P w= .ok (q.map fun f=>(f.offset,P.cellsOf f.type)) w:=by
    rw[Array.mapM_eq_mapM_toList];simp only[Sem.run_map];rw[Jk q.toList (fun f G=>by
     have:=Array.all_eq_true'.1 o f (by simpa using G);exact this)]
    simp only[Result.andThen_ok,Result.ok.injEq,and_true];grind
   simp only[Instr.build,Sem.run_bind,j,Result.andThen_ok,run_underlying r,x,d]
   simp_all
  .cases c
 .rename_i z n e y r;obtain⟨i,C,_,_,j,g,_,k⟩:=tS (w:=w) y;split at c
  .rename_i F;obtain⟨H,s⟩:=Option.isSome_iff_exists.1 F;simp only[Option.map_eq_some_iff] at c;obtain⟨l,u,rfl⟩:=c;obtain⟨A,p,b⟩:=Eo a parts'.toList z z l D (k ρ) u;refine⟨.agg ⟨A⟩,?_,by simp only[aF];exact⟨_,by simp only[lJ];exact b,rfl⟩⟩;have d:C.cells=⟨z⟩:=by rw[<-g]
   simp only[Instr.build,Sem.run_bind,j,Result.andThen_ok,run_underlying r,gA s,d,p]
   rfl
  .cases c
 .cases c
end
section
variable {P:Program} {B:Nat} {ρ:iH} {h:AH} {w:World}
def zZ (ρ:iH):Option Value->Option Value->Prop
 |none,v=>v=none
 |some v,a=>∃u,aF ρ v u/\a=some u
theorem zZ.map {ev a:Operand->Value} (b:∀x,aF ρ (ev x) (a x)) (o:Option Operand):zZ ρ (o.map ev) (o.map a):=by
 cases o with
 |none=>rfl
 |some x=>exact⟨_,b x,rfl⟩
theorem sO {v v':Value} (c:aF ρ v v') {d y b r:Nat} (f:y<=b) (hb:lI (some v) d y=some r):(∀code,(Instr.sliceBound v' b code).run P w= .ok r w)/\r<=y:=by
 unfold lI at hb;split at hb;rename_i a;cases a;rename_i k i a;cases a;simp only[aF] at c;subst c;split at hb;rename_i e;cases hb;exact⟨fun code=>run_sliceBound w k i b code e.1 (by omega),by omega⟩;cases hb;cases hb
theorem tK {s p o t q y:Option Value} (a:zZ ρ s t) (e:zZ ρ p q) (j:zZ ρ o y) (ym:Bool) {len cap b m z l:Nat} (hc:cap<=b)
  (A:lI o cap cap=some m) (i:(if p.isNone&&o.isSome then none else lI p len m)=some z) (d:lI s 0 z=some l):
  (Instr.sliceBounds ym len b t q y).run P w= .ok (l,z,if o.isSome then m else b) w/\m<=cap/\l<=z/\(o=none->m=cap):=by
 cases o with
 |none=>
  simp only[zZ] at j;subst j
  simp only[lI,Option.some.injEq] at A;subst A
  cases p with
  |none=>
   simp only[zZ] at e;subst e
   simp[lI] at i;subst i
   cases s with
   |none=>simp only[zZ] at a;subst a;simp[lI] at d;subst d;simp[Instr.sliceBounds]
   |some v=>
    obtain⟨u,f,rfl⟩:=a
    obtain⟨k,hle⟩:=sO (P:=P) (w:=w) f (Nat.le_refl _) d
    simp[Instr.sliceBounds,k,hle]
  |some v=>
   obtain⟨u,f,rfl⟩:=e
   simp at i
   obtain⟨k,hle⟩:=sO (P:=P) (w:=w) f hc i
   cases s with
   |none=>simp only[zZ] at a;subst a;simp[lI] at d;subst d;simp[Instr.sliceBounds,k]
   |some v=>
    obtain⟨u,f,rfl⟩:=a
    obtain⟨n,c⟩:=sO (P:=P) (w:=w) f (Nat.le_refl _) d
    simp[Instr.sliceBounds,k,n,c]
 |some x=>
  obtain⟨D,C,rfl⟩:=j
  obtain⟨r,g⟩:=sO (P:=P) (w:=w) C hc A
  cases p with
  |none=>simp at i
  |some v=>
   obtain⟨u,f,rfl⟩:=e
   simp at i
   obtain⟨k,hle⟩:=sO (P:=P) (w:=w) f (Nat.le_refl _) i
   cases s with
   |none=>simp only[zZ] at a;subst a;simp[lI] at d;subst d;simp[Instr.sliceBounds,r,k,g]
   |some v=>
    obtain⟨u,f,rfl⟩:=a
    obtain⟨n,c⟩:=sO (P:=P) (w:=w) f (Nat.le_refl _) d
    simp[Instr.sliceBounds,r,k,n,c,g]
theorem T3 (hi:Inv P B ρ h w) {t:TypeId} {x x':Value} {lo K A N J O:Option Value} {v:Value} (z:aF ρ x x') (q:zZ ρ lo N) (p:zZ ρ K J) (g:zZ ρ A O)
  (d:uY P h t x lo K A=some v):∃v',(Instr.sliceAt t x' N J O).run P w= .ok v' w/\aF ρ v v':=by
 unfold uY at d
 split at d
 .rename_i n e a C;simp only[aF] at z;obtain⟨b,s,T,rfl⟩:=z;split at d
  .rename_i m R;split at d
   .rename_i k u;split at d
    .rename_i l F;split at d
     .rename_i G;cases d;obtain⟨i,f⟩:=Option.isSome_iff_exists.1 G.1;obtain⟨j,_,_,D⟩:=tK (P:=P) (w:=w) q p g false (Nat.le_refl n) R u F;have M:(if A.isSome then m else n)=m:=by simp_all
      rw[M] at j
      obtain⟨ab,Q,o⟩:=a
      obtain rfl:o=none:=G.2
      refine⟨.slice (some (if m=l then⟨b,Q+s.2,none⟩ else Addr.add ⟨b,Q+s.2,none⟩ (l*P.cellsOf e))) (k - l) (m - l),?_,?_⟩
      .simp only[Instr.sliceAt,Sem.run_bind,run_underlying C,Result.andThen_ok,Instr.sureAddr,Sem.run_pure,j,gA f]
      .rw[dE,dE];split<;>(simp only[aF];exact⟨b,s,_,T,Nat.le_refl _,Nat.le_add_right _ _,by grind⟩)
     .cases d
    .cases d
   .cases d
  .cases d
 .rename_i s C;simp only[aF] at z;subst z;split at d
  .cases d
  .rename_i H;have H:A=none:=by simp_all
   subst H
   split at d
   .rename_i k u;split at d
    .rename_i l F;cases d;obtain⟨j,_⟩:=tK (P:=P) (w:=w) q p g false (Nat.le_refl s.size) (m:=s.size) rfl (by simpa using u) F;simp only[zZ] at g;subst g;refine⟨.string (s.extract l k),?_,by simp only[aF]⟩;simp only[Instr.sliceAt,Instr.slice,Sem.run_bind,run_underlying C,Result.andThen_ok,Option.isSome_none,Bool.false_eq_true,if_false,Sem.run_pure] at j ⊢;simp[j]
    .cases d
   .cases d
 .rename_i e len I C;simp only[aF] at z;subst z;split at d
  .rename_i m R;split at d
   .rename_i k u;split at d
    .rename_i l F;split at d
     .rename_i G;cases d;obtain⟨i,f⟩:=Option.isSome_iff_exists.1 G;obtain⟨j,_,_,D⟩:=tK (P:=P) (w:=w) q p g true (Nat.le_refl I) R u F;have M:(if A.isSome then m else I)=m:=by simp_all
      rw[M] at j
      refine⟨.slice none (k - l) (m - l),?_,by simp only[aF]⟩
      simp only[Instr.sliceAt,Instr.slice,Sem.run_bind,run_underlying C,Result.andThen_ok,j,gA f,Sem.run_pure,Option.map_none]
      simp
     .cases d
    .cases d
   .cases d
  .cases d
 .rename_i e a len I C;obtain⟨ab,Q,o⟩:=a;split at d
  .rename_i m R;split at d
   .rename_i k u;split at d
    .rename_i l F;split at d
     .rename_i U;obtain⟨sp,rfl⟩:∃sp,o=some sp:=by cases o with|none=>simp at U|some sp=>exact⟨sp,rfl⟩
      split at d
      .rename_i G;obtain⟨f,rfl,rfl⟩:=G;cases d;obtain⟨i,f⟩:=Option.isSome_iff_exists.1 f;simp only[aF] at z;obtain⟨_,_,V,E,_,_,rfl⟩:=z;obtain⟨j,Y,X,D⟩:=tK (P:=P) (w:=w) q p g true (Nat.zero_le E) R u F;obtain rfl:m=0:=by omega
       have hz:k=0:=by
        cases K with
        |none=>
         simp_all
        |some v=>
         simp at u;unfold lI at u;grind
       subst hz
       obtain rfl:l=0:=by omega
       cases r:A.isSome with
       |true=>
        refine⟨.slice (some V) 0 0,?_,?_⟩
        .simp only[Instr.sliceAt,Instr.slice,Sem.run_bind,run_underlying C,Result.andThen_ok,j,gA f,Sem.run_pure,Option.map_some,r,if_true]
        .simp only[if_true,tF,aF];grind
       |false=>
        refine⟨.slice (some (if E=0 then V else V.add (0*P.cellsOf e))) 0 E,?_,?_⟩
        .simp only[Instr.sliceAt,Instr.slice,Sem.run_bind,run_underlying C,Result.andThen_ok,j,gA f,Sem.run_pure,Option.map_some,r,Bool.false_eq_true,if_false,Nat.sub_zero];split<;>rfl
        .simp only[Bool.false_eq_true,if_false,aCy,aF];grind
      .cases d
     .rename_i U;have U:o=none:=by simp_all
      subst U
      simp only[aF] at z
      obtain⟨b,s,E,T,W,γ,rfl⟩:=z
      split at d
      .rename_i G;obtain⟨i,f⟩:=Option.isSome_iff_exists.1 G.1;obtain⟨j,Y,X,D⟩:=tK (P:=P) (w:=w) q p g true W R u F;have S:(Instr.sliceAt t (.slice (some ⟨b,Q+s.2,none⟩) len E) N J O).run P w=
         .ok (.slice (some (if(if A.isSome then m else E)=l then⟨b,Q+s.2,none⟩ else⟨b,Q+s.2+l*P.cellsOf e,none⟩)) (k - l) ((if A.isSome then m else E) - l)) w:=by
        simp only[Instr.sliceAt,Instr.slice,Sem.run_bind,run_underlying C,Result.andThen_ok,j,gA f,Sem.run_pure,Option.map_some,dE]
        grind
       refine⟨_,S,?_⟩
       split at d
       .rename_i L;subst L;obtain rfl:k=m:=by omega
        split at d
        .rename_i r;cases d;simp only[r,if_true,tF,aF];grind
        .rename_i r;have Z:A=none:=by simp_all
         subst Z
         have D:=D rfl
         subst D
         split at d
         .rename_i hex;cases d;unfold qK at hex;split at hex
          .rename_i c el fz x hg;cases hex;obtain⟨_,_,_,_,_,_,α⟩:=hi.rI _ _ hg b s T;have δ:s.1=0:=(α rfl).1;simp only[Option.isSome_none,Bool.false_eq_true,if_false,tF,aF];grind
          .cases hex
         .cases d;rw[dE];simp only[Option.isSome_none,Bool.false_eq_true,if_false,Ar,aF];rw[Nat.sub_self];refine⟨trivial,trivial,_,E - k,fun k=>absurd k (by omega),fun _=>⟨b,s,T,by omega,fun β=>?_⟩,rfl⟩;grind
         .cases d
       .rename_i L;cases d;cases A with
        |none=>
         have D:=D rfl
         subst D
         simp only[Option.isSome_none,Bool.false_eq_true,if_false]
         rw[aaa,dE]
         simp only[aF]
         grind
        |some y=>
         simp only[Option.isSome_some,if_true]
         rw[dE,aJ6 L]
         simp only[aF]
         grind
      .cases d
    .cases d
   .cases d
  .cases d
 .cases d
end
section
variable {P:Program} {B:Nat} {ρ:iH} {h:AH} {w:World}
theorem tW {d:Nat} {eq:TypeId->Value->Value->Option Bool} (heq:∀t x y n o r,aF ρ x n->aF ρ y o->eq t x y=some r->(Op.equalIn d t n o).run P w= .ok r w)
  {xs ys c e:List Value} (j:aZ ρ xs c) (l:aZ ρ ys e):∀(fs:List Field) (r:Bool),mG P eq xs ys fs=some r->(Op.eqFields d ⟨c⟩ ⟨e⟩ fs).run P w= .ok r w
 |[],r,h=>by simp only[mG,Option.some.injEq] at h;subst h;simp[Op.eqFields]
 |f::fs,r,h=>by
  simp only[mG] at h;split at h;rename_i i;simp only[Op.eqFields,i,ne_eq,not_true_eq_false,if_false];exact tW heq j l fs r h;rename_i i;simp only[Op.eqFields,ne_eq,i,not_false_eq_true,if_true,Sem.run_bind];split at h;rename_i x y p q;obtain⟨n,k,a⟩:=xB (P:=P) (w:=w) p j;obtain⟨o,m,b⟩:=xB (P:=P) (w:=w) q l;simp only[k,m,Result.andThen_ok];split at h;rename_i g;have:=heq _ _ _ _ _ _ a b g;simp only[this,Result.andThen_ok];simpa using tW heq j l fs r h;rename_i g;cases h;have:=heq _ _ _ _ _ _ a b g;simp[this];cases h;cases h
theorem Co {d:Nat} {e:TypeId} {eq:TypeId->Value->Value->Option Bool} (heq:∀t x y l m r,aF ρ x l->aF ρ y m->eq t x y=some r->(Op.equalIn d t l m).run P w= .ok r w)
  {xs ys c f:List Value} (n:aZ ρ xs c) (o:aZ ρ ys f):∀(is:List Nat) (r:Bool),rD P eq e xs ys is=some r->(Op.eqItems d e (P.cellsOf e) ⟨c⟩ ⟨f⟩ is).run P w= .ok r w
 |[],r,h=>by simp only[rD,Option.some.injEq] at h;subst h;simp[Op.eqItems]
 |i::is,r,h=>by
  simp only[rD] at h;simp only[Op.eqItems,Sem.run_bind];split at h;rename_i x y p q;obtain⟨l,j,a⟩:=xB (P:=P) (w:=w) p n;obtain⟨m,k,b⟩:=xB (P:=P) (w:=w) q o;simp only[j,k,Result.andThen_ok];split at h;rename_i g;have:=heq _ _ _ _ _ _ a b g;simp only[this,Result.andThen_ok];simpa using Co heq n o is r h;rename_i g;cases h;have:=heq _ _ _ _ _ _ a b g;simp[this];cases h;cases h
set_option maxHeartbeats 1000000 in
theorem ly (d:Nat):∀(t:TypeId) (x y p q:Value) (r:Bool),aF ρ x p->aF ρ y q->yZ P d t x y=some r->(Op.equalIn d t p q).run P w= .ok r w:=by
 induction d with
 |zero=>intro _ _ _ _ _ _ _ _ h;simp[yZ] at h
 |succ d u=>
  intro t x y p q r g c h;unfold yZ at h;split at h;rename_i f;simp only[aF] at g c;subst g;subst c;cases h;simp[Op.equalIn,run_underlying f];rename_i f;simp only[aF] at g c;subst g;subst c;split at h;rename_i C;cases h;simp[Op.equalIn,run_underlying f,C];cases h;rename_i f;simp only[aF] at g c;subst g;subst c;cases h;simp[Op.equalIn,run_underlying f];rename_i b f;simp only[aF] at g;subst g;cases h;cases b with
  |none=>simp only[aF] at c;subst c;simp[Op.equalIn,run_underlying f]
  |some b=>simp only[aF] at c;obtain⟨_,_,_,rfl⟩:=c;simp[Op.equalIn,run_underlying f]
  rename_i f;simp only[aF] at g c;obtain⟨_,_,_,rfl⟩:=g;subst c;cases h;simp[Op.equalIn,run_underlying f];rename_i f;simp only[aF] at g c;subst g;subst c;cases h;simp[Op.equalIn,run_underlying f];rename_i f;simp only[aF] at g c;subst g;obtain⟨_,_,rfl⟩:=c;cases h;simp[Op.equalIn,run_underlying f];rename_i f;simp only[aF] at g c;obtain⟨_,_,rfl⟩:=g;subst c;cases h;simp[Op.equalIn,run_underlying f];rename_i v D E f;simp only[aF] at g c;obtain⟨l,j,rfl⟩:=g;obtain⟨m,k,rfl⟩:=c;split at h;cases h;rename_i o;have s:P.fieldsOf t=v:=by simp[Program.fieldsOf,f]
  rw[run_equalIn_struct w d t l m (by rw[s];exact f) (by simpa using o),s];exact tW u (jB.1 j) (jB.1 k) _ _ h;rename_i n e D E f;simp only[aF] at g c;obtain⟨l,j,rfl⟩:=g;obtain⟨m,k,rfl⟩:=c;split at h;rename_i z;obtain⟨i,A⟩:=Option.isSome_iff_exists.1 z;rw[run_equalIn_array w d l m f A];exact Co u (jB.1 j) (jB.1 k) _ _ h;cases h;rename_i b _ _ f;simp only[aF] at g;subst g;cases h;cases b with
  |none=>simp only[aF] at c;subst c;simp[Op.equalIn,run_underlying f]
  |some b=>
   obtain⟨_,_,sp⟩:=b;cases sp with
   |none=>simp only[aF] at c;obtain⟨_,_,_,_,_,_,rfl⟩:=c;simp[Op.equalIn,run_underlying f]
   |some _=>simp only[aF] at c;obtain⟨_,_,_,_,_,_,rfl⟩:=c;simp[Op.equalIn,run_underlying f]
  rename_i a _ _ _ _ f;simp only[aF] at c;subst c;cases h;obtain⟨_,_,sp⟩:=a;cases sp with
  |none=>simp only[aF] at g;obtain⟨_,_,_,_,_,_,rfl⟩:=g;simp[Op.equalIn,run_underlying f]
  |some _=>simp only[aF] at g;obtain⟨_,_,_,_,_,_,rfl⟩:=g;simp[Op.equalIn,run_underlying f]
  rename_i b f;simp only[aF] at g;subst g;cases h;cases b with
  |none=>simp only[aF] at c;subst c;simp[Op.equalIn,run_underlying f]
  |some b=>simp only[aF] at c;obtain⟨_,_,_,rfl⟩:=c;simp[Op.equalIn,run_underlying f]
  rename_i f;simp only[aF] at g c;obtain⟨_,_,_,rfl⟩:=g;subst c;cases h;simp[Op.equalIn,run_underlying f];rename_i f;simp only[aF] at g c;subst g;subst c;cases h;simp[Op.equalIn,run_underlying f];rename_i f;simp only[aF] at g c;subst g;obtain⟨_,_,_,_,_,_,rfl⟩:=c;cases h;simp[Op.equalIn,run_underlying f];rename_i f;simp only[aF] at g c;obtain⟨_,_,_,_,_,_,rfl⟩:=g;subst c;cases h;simp[Op.equalIn,run_underlying f];cases h
end
section
variable {P:Program} {B:Nat} {ρ:iH} {h:AH} {w:World}
theorem Pz {op:BinOp} {t:TypeId} {x y:Operand} {a b k l:Value} (d:aF ρ a k) (hb:aF ρ b l) (o:yR a=false) (n:yR b=false) (g:Hr P t x y a b=true):
  (eqGuard op t x y k l).run P w= .ok () w:=by
 cases a with
 |chan r=>simp[yR] at o
 |nilIface=>
  simp only[aF] at d;subst d
  cases b with
  |chan r=>simp[yR] at n
  |nilIface=>
   simp only[aF] at hb;subst hb
   simp only[Hr,Bool.or_eq_true] at g
   cases x with
   |const c=>rw[eqGuard_nil_constL];rfl
   |_=>
    cases y with
    |const c=>rw[eqGuard_nil_constR];rfl
    |_=>simp[isConst] at g
  |iface u v=>simp only[aF] at hb;obtain⟨_,_,rfl⟩:=hb;rw[eqGuard_nil_iface];rfl
  |agg e=>simp only[aF] at hb;obtain⟨_,_,rfl⟩:=hb;cases op<;>rfl
  |tuple e=>simp only[aF] at hb;obtain⟨_,_,rfl⟩:=hb;cases op<;>rfl
  |func m f c=>simp only[aF] at hb;obtain⟨_,_,_,_,_,_,rfl⟩:=hb;cases op<;>rfl
  |pointer a=>cases a with
   |none=>simp only[aF] at hb;subst hb;cases op<;>rfl
   |some a=>simp only[aF] at hb;obtain⟨_,_,_,rfl⟩:=hb;cases op<;>rfl
  |map a=>cases a with
   |none=>simp only[aF] at hb;subst hb;cases op<;>rfl
   |some a=>simp only[aF] at hb;obtain⟨_,_,_,rfl⟩:=hb;cases op<;>rfl
  |slice a _ _=>cases a with
   |none=>simp only[aF] at hb;subst hb;cases op<;>rfl
   |some a=>
    obtain⟨_,_,sp⟩:=a
    cases sp with
    |none=>simp only[aF] at hb;obtain⟨_,_,_,_,_,_,rfl⟩:=hb;cases op<;>rfl
    |some _=>simp only[aF] at hb;obtain⟨_,_,_,_,_,_,rfl⟩:=hb;cases op<;>rfl
  |_=>simp only[aF] at hb;subst hb;cases op<;>rfl
 |iface u v=>simp only[aF] at d;obtain⟨_,_,rfl⟩:=d;rw[eqGuard_at_iface];rfl
 |tuple e=>simp only[aF] at d;obtain⟨_,_,rfl⟩:=d;rw[eqGuard_at_tuple];rfl
 |func m f c=>simp only[aF] at d;obtain⟨_,_,_,_,_,_,rfl⟩:=d;rw[eqGuard_at_func];rfl
 |pointer a=>cases a with
  |none=>simp only[aF] at d;subst d;rw[eqGuard_at_pointer];rfl
  |some a=>simp only[aF] at d;obtain⟨_,_,_,rfl⟩:=d;rw[eqGuard_at_pointer];rfl
 |map a=>cases a with
  |none=>simp only[aF] at d;subst d;rw[eqGuard_at_map];rfl
  |some a=>simp only[aF] at d;obtain⟨_,_,_,rfl⟩:=d;rw[eqGuard_at_map];rfl
 |slice a _ _=>cases a with
  |none=>simp only[aF] at d;subst d;rw[eqGuard_at_slice];rfl
  |some a=>
   obtain⟨_,_,sp⟩:=a
   cases sp with
   |none=>simp only[aF] at d;obtain⟨_,_,_,_,_,_,rfl⟩:=d;rw[eqGuard_at_slice];rfl
   |some _=>simp only[aF] at d;obtain⟨_,_,_,_,_,_,rfl⟩:=d;rw[eqGuard_at_slice];rfl
 |bool _=>simp only[aF] at d;subst d;rw[eqGuard_at_bool];rfl
 |int _ _=>simp only[aF] at d;subst d;rw[eqGuard_at_int];rfl
 |float _ _=>simp only[aF] at d;subst d;rw[eqGuard_at_float];rfl
 |complex _ _ _=>simp only[aF] at d;subst d;rw[eqGuard_at_complex];rfl
 |string _=>simp only[aF] at d;subst d;rw[eqGuard_at_string];rfl
 |nilFunc=>simp only[aF] at d;subst d;rw[eqGuard_at_nilFunc];rfl
 |agg e=>
  simp only[aF] at d;obtain⟨i,_,rfl⟩:=d
  cases b with
  |agg p=>
   simp only[aF] at hb;obtain⟨j,_,rfl⟩:=hb
   simp only[Hr,Bool.not_eq_true'] at g
   exact run_eqGuard_agg w op t x y i j g
  |chan r=>simp[yR] at n
  |iface u v=>simp only[aF] at hb;obtain⟨_,_,rfl⟩:=hb;cases op<;>rfl
  |tuple e=>simp only[aF] at hb;obtain⟨_,_,rfl⟩:=hb;cases op<;>rfl
  |func m f c=>simp only[aF] at hb;obtain⟨_,_,_,_,_,_,rfl⟩:=hb;cases op<;>rfl
  |pointer a=>cases a with
   |none=>simp only[aF] at hb;subst hb;cases op<;>rfl
   |some a=>simp only[aF] at hb;obtain⟨_,_,_,rfl⟩:=hb;cases op<;>rfl
  |map a=>cases a with
   |none=>simp only[aF] at hb;subst hb;cases op<;>rfl
   |some a=>simp only[aF] at hb;obtain⟨_,_,_,rfl⟩:=hb;cases op<;>rfl
  |slice a _ _=>cases a with
   |none=>simp only[aF] at hb;subst hb;cases op<;>rfl
   |some a=>
    obtain⟨_,_,sp⟩:=a
    cases sp with
    |none=>simp only[aF] at hb;obtain⟨_,_,_,_,_,_,rfl⟩:=hb;cases op<;>rfl
    |some _=>simp only[aF] at hb;obtain⟨_,_,_,_,_,_,rfl⟩:=hb;cases op<;>rfl
  |_=>simp only[aF] at hb;subst hb;cases op<;>rfl
theorem Dp {d:Nat} {t:TypeId} {x y:Value} {r:Bool} (h:yZ P d t x y=some r):yR x=false/\yR y=false:=by
 cases d with
 |zero=>simp[yZ] at h
 |succ d=>unfold yZ at h;split at h<;>first|exact⟨rfl,rfl⟩|cases h
theorem Cx {op:BinOp} {k k':IntKind} {t:TypeId} {m n:Int} {v:Value} (a:Jz op k m n=some v):(binOp op t (.int k m) (.int k' n)).run P w= .ok v w/\∀ρ:iH,aF ρ v v:=by
 unfold Jz at a;split at a;cases a;rename_i b;split at a;cases a;exact⟨by simp[binOp,Op.shift,b],fun ρ=>by simp only[aF]⟩;cases a;exact⟨by simp[binOp,Op.shift,b],fun ρ=>by simp only[aF]⟩;cases a
theorem qq {op:BinOp} {k:IntKind} {t:TypeId} {m n:Int} {v:Value} (a:Nr op k m n=some v):(binOp op t (.int k m) (.int k n)).run P w= .ok v w/\∀ρ:iH,aF ρ v v:=by
 cases op<;>simp only[Nr,aG1,Option.map_some,Option.some.injEq] at a<;>try cases a
 case shl=>exact Cx a
 case shr=>exact Cx a
 case and=>exact⟨by simp[binOp,Op.intBits],fun ρ=>by simp only[aF]⟩
 case or=>exact⟨by simp[binOp,Op.intBits],fun ρ=>by simp only[aF]⟩
 case xor=>exact⟨by simp[binOp,Op.intBits],fun ρ=>by simp only[aF]⟩
 case andNot=>exact⟨by simp[binOp,Op.intBits],fun ρ=>by simp only[aF]⟩
 case add=>exact⟨by rw[binOp_add];rfl,fun ρ=>by simp only[aF]⟩
 case sub=>exact⟨by rw[binOp_sub];rfl,fun ρ=>by simp only[aF]⟩
 case mul=>exact⟨by rw[binOp_mul];rfl,fun ρ=>by simp only[aF]⟩
 case quo=>
  split at a;cases a;rename_i h;cases a;exact⟨by rw[binOp_quo];simp[Op.intDiv,h],fun ρ=>by simp only[aF]⟩
 case rem=>
  split at a;cases a;rename_i h;cases a;exact⟨by rw[binOp_rem];simp[Op.intDiv,h],fun ρ=>by simp only[aF]⟩
 case eql=>exact⟨by rw[binOp_eql];rfl,fun ρ=>by simp only[aF]⟩
 case neq=>exact⟨by rw[binOp_neq];rfl,fun ρ=>by simp only[aF]⟩
 case lss=>exact⟨by rw[binOp_lss];rfl,fun ρ=>by simp only[aF]⟩
 case leq=>exact⟨by rw[binOp_leq];rfl,fun ρ=>by simp only[aF]⟩
 case gtr=>exact⟨by rw[binOp_gtr];rfl,fun ρ=>by simp only[aF]⟩
 case geq=>exact⟨by rw[binOp_geq];rfl,fun ρ=>by simp only[aF]⟩
theorem vd {op:BinOp} {t:TypeId} {m n:ByteArray} {v:Value} (a:aAe op m n=some v):(binOp op t (.string m) (.string n)).run P w= .ok v w/\∀ρ:iH,aF ρ v v:=by
 cases op<;>simp only[aAe,Option.some.injEq] at a<;>try cases a
 case add=>
  split at a;rename_i h;cases a;refine⟨?_,fun ρ=>by simp only[aF]⟩;have:¬(((m.size+n.size:Nat):Int)>IntKind.i64.max):=by rw[IntKind.max_i64];omega
  simp only[binOp,Op.stringOp];rw[aJ6 this];rfl;cases a
 case eql=>exact⟨by simp[binOp,Op.stringOp],fun ρ=>by simp only[aF]⟩
 case neq=>exact⟨by simp[binOp,Op.stringOp],fun ρ=>by simp only[aF]⟩
 case lss=>exact⟨by simp[binOp,Op.stringOp],fun ρ=>by simp only[aF]⟩
theorem Cp {t:TypeId} {a b g i:Value} {r:Bool} (d:aF ρ a g) (hb:aF ρ b i) (j:yZ P 10000 t a b=some r) (q:∀k m l n,¬(a= .int k m/\b= .int l n)) (s:∀m n,¬(a= .string m/\b= .string n)):
  (binOp .eql t g i).run P w= .ok (.bool r) w/\(binOp .neq t g i).run P w= .ok (.bool !r) w:=by
 have A:(Op.equal t g i).run P w= .ok r w:=ly 10000 t a b g i r d hb j
 obtain⟨p,z⟩:=Dp j
 have x:∀op,(op=BinOp.eql\/op=BinOp.neq)->binOp op t g i=(if op= .eql then(do pure (.bool (<-Op.equal t g i)):Sem Value) else do pure (.bool (!(<-Op.equal t g i)))):=by
  intro op e;cases a with
  |chan r=>simp[yR] at p
  |int k m=>
   simp only[aF] at d;subst d;cases b with
   |int l n=>grind
   |_=>
    unfold yZ at j;grind
  |string m=>
   simp only[aF] at d;subst d;cases b with
   |string n=>grind
   |_=>
    unfold yZ at j;grind
  |float k m=>unfold yZ at j;grind
  |complex k m n=>unfold yZ at j;grind
  |tuple o=>unfold yZ at j;grind
  |bool c=>simp only[aF] at d;subst d;rcases e with rfl|rfl<;>simp[binOp]
  |nilFunc=>simp only[aF] at d;subst d;rcases e with rfl|rfl<;>simp[binOp]
  |nilIface=>simp only[aF] at d;subst d;rcases e with rfl|rfl<;>simp[binOp]
  |iface u v=>simp only[aF] at d;obtain⟨_,_,rfl⟩:=d;rcases e with rfl|rfl<;>simp[binOp]
  |func y f c=>simp only[aF] at d;obtain⟨_,_,_,_,_,_,rfl⟩:=d;rcases e with rfl|rfl<;>simp[binOp]
  |agg o=>simp only[aF] at d;obtain⟨_,_,rfl⟩:=d;rcases e with rfl|rfl<;>simp[binOp]
  |pointer a=>cases a with
   |none=>simp only[aF] at d;subst d;rcases e with rfl|rfl<;>simp[binOp]
   |some a=>simp only[aF] at d;obtain⟨_,_,_,rfl⟩:=d;rcases e with rfl|rfl<;>simp[binOp]
  |map a=>cases a with
   |none=>simp only[aF] at d;subst d;rcases e with rfl|rfl<;>simp[binOp]
   |some a=>simp only[aF] at d;obtain⟨_,_,_,rfl⟩:=d;rcases e with rfl|rfl<;>simp[binOp]
  |slice a _ _=>cases a with
   |none=>simp only[aF] at d;subst d;rcases e with rfl|rfl<;>simp[binOp]
   |some a=>
    obtain⟨_,_,sp⟩:=a
    cases sp with
    |none=>simp only[aF] at d;obtain⟨_,_,_,_,_,_,rfl⟩:=d;rcases e with rfl|rfl<;>simp[binOp]
    |some _=>simp only[aF] at d;obtain⟨_,_,_,_,_,_,rfl⟩:=d;rcases e with rfl|rfl<;>simp[binOp]
 simp_all
theorem ik {op:BinOp} {t:TypeId} {x y:Operand} {a b p q v:Value} (f:aF ρ a p) (hb:aF ρ b q) (c:Vd P op t x y a b=some v):
  ∃A,(do eqGuard op t x y p q;binOp op t p q:Sem Value).run P w= .ok A w/\aF ρ v A:=by
 unfold Vd at c
 split at c
 .rename_i k m j n;simp only[aF] at f hb;subst f;subst hb;split at c
  .rename_i C;subst C;obtain⟨d,e⟩:=qq (P:=P) (w:=w) (t:=t) c;exact⟨v,by simp only[Sem.run_bind,eqGuard_at_int,Sem.run_pure,Result.andThen_ok,d],e ρ⟩
  .obtain⟨d,e⟩:=Cx (P:=P) (w:=w) (t:=t) (k':=j) c;exact⟨v,by simp only[Sem.run_bind,eqGuard_at_int,Sem.run_pure,Result.andThen_ok,d],e ρ⟩
 .rename_i m n;simp only[aF] at f hb;subst f;subst hb;obtain⟨d,e⟩:=vd (P:=P) (w:=w) (t:=t) c;exact⟨v,by simp only[Sem.run_bind,eqGuard_at_string,Sem.run_pure,Result.andThen_ok,d],e ρ⟩
 .rename_i s u;have g:∀k m j n,¬(a= .int k m/\b= .int j n):=fun k m j n l=>s k m j n l.1 l.2;have i:∀m n,¬(a= .string m/\b= .string n):=fun m n l=>u m n l.1 l.2;split at c
  .split at c
   .rename_i z;simp only[Option.map_eq_some_iff] at c;obtain⟨r,o,rfl⟩:=c;obtain⟨d,e⟩:=Dp o;refine⟨.bool r,?_,by simp only[aF]⟩;simp only[Sem.run_bind,Pz f hb d e z,Result.andThen_ok,(Cp f hb o g i).1]
   .cases c
  .split at c
   .rename_i z;simp only[Option.map_eq_some_iff] at c;obtain⟨r,o,rfl⟩:=c;obtain⟨d,e⟩:=Dp o;refine⟨.bool !r,?_,by simp only[aF]⟩;simp only[Sem.run_bind,Pz f hb d e z,Result.andThen_ok,(Cp f hb o g i).2]
   .cases c
  .cases c
end
section
variable {P:Program} {B:Nat} {ρ:iH} {h:AH} {w:World}
theorem Cr {r:Nat} {o:Obj} (a:w.heap[r]?=some o) (hc:∀c e f,o≠.cells c e f):(getObj r).run P w= .ok o w:=by
 simp only[getObj,Sem.run,a]
theorem tJ {r:Nat} {o o':Obj} (a:w.heap[r]?=some o) (hc:∀c e f,o≠.cells c e f):(setObj r o').run P w= .ok () {w with heap:=w.heap.setIfInBounds r o'}:=by
 simp only[setObj,Sem.run,a]
theorem qD {r:Nat} {es:Array MapEntry} {c:Nat} (b:w.heap[r]?=some (.map es c)):(getObj r).run P w= .ok (.map es c) w:=
 Cr b fun _ _ _ a=>by cases a
theorem yL {r:Nat} {es:Array MapEntry} {c:Nat} {o':Obj} (b:w.heap[r]?=some (.map es c)):(setObj r o').run P w= .ok () {w with heap:=w.heap.setIfInBounds r o'}:=
 tJ b fun _ _ _ a=>by cases a
theorem I0 {t e:TypeId} (h:G4 P t=some e):∃a k,P.underlying t=some (.map a e)/\P.underlying a=some (.int k):=by
 unfold G4 at h;grind
def Vq (ρ:iH):Option (Nat×Value)->Option (Nat×Value)->Prop
 |none,y=>y=none
 |some (i,v),y=>∃a,aF ρ v a/\y=some (i,a)
theorem Gj {kk k:IntKind} {n:Int}:∀(es:List (Value×Value×Nat)) (c:List MapEntry) (i:Nat) (r:Option (Nat×Value)),kS ρ es c->wV k n es i=some r->
  ∃f,Instr.findNow (.int kk) (.int k n) c i=some f/\Vq ρ r f
 |[],c,i,r,e,a=>by
  simp only[kS] at e;subst e;simp only[wV,Option.some.injEq] at a;subst a;exact⟨none,rfl,rfl⟩
 |(l,v,b)::es,c,i,r,e,a=>by
  obtain⟨y,p,t,o,q,s,rfl⟩:=e;cases l with
  |int j m=>
   simp only[aF] at o;subst o;simp only[wV] at a;split at a;rename_i u;subst u;split at a;rename_i g;simp only[Option.some.injEq] at a;subst a;refine⟨some (i,p),?_,p,q,rfl⟩;simp[Instr.findNow,Instr.sameNow,g];rename_i g;obtain⟨f,x,d⟩:=Gj (kk:=kk) es t (i+1) r s a;refine⟨f,?_,d⟩;have:(n==m)=false:=by simpa using g
   simp[Instr.findNow,Instr.sameNow,this,x];cases a
  |_=>simp[wV] at a
theorem nP {d:TypeId} {kk k:IntKind} {n:Int} (g:P.underlying d=some (.int kk)) {es:List (Value×Value×Nat)} {a:List MapEntry} {r:Option (Nat×Value)} (e:kS ρ es a) (f:wV k n es 0=some r):
  ∃c,(Instr.findKey d (.int k n) a).run P w= .ok c w/\Vq ρ r c:=by
 obtain⟨c,i,b⟩:=Gj (kk:=kk) es a 0 r e f
 refine⟨c,?_,b⟩
 simp only[Instr.findKey,Sem.run_bind,run_underlying g,Result.andThen_ok,i,Sem.run_pure]
theorem kH {a:TypeId} {kk k:IntKind} {n:Int} (b:P.underlying a=some (.int kk)) (e:Bool):(Instr.checkKey e 10000 a (.int k n)).run P w= .ok () w:=by
 show(Instr.checkKey e (9999+1) a (.int k n)).run P w= .ok () w;rw[Instr.checkKey,Sem.run_bind,run_underlying b];rfl
theorem kj {t:TypeId} {z:Value} (a:zeroV P t=some z):(zeroValue t).run P w= .ok z w/\aF ρ z z:=by
 unfold zeroV at a;cases hi:P.info? t with
 |none=>simp[hi] at a
 |some i=>
  cases hz0:i.zero with
  |none=>simp[hi,hz0] at a
  |some z0=>
   simp only[hi,hz0,Option.bind_some] at a;split at a;rename_i b;cases a;exact⟨by simp[zeroValue,typeInfo,hi,hz0],hQ _ b⟩;cases a
theorem ah (k:Inv P B ρ h w) {x f:Value} {es:List (Value×Value×Nat)} (e:aF ρ x f) (d:Yi h x=some es):
  ∃a,kS ρ es a/\((f= .map none/\a=[])\/∃r c,f= .map (some r)/\w.heap[r]?=some (.map ⟨a⟩ c)):=by
 unfold Yi at d
 split at d
 .cases d;simp only[aF] at e;exact⟨[],rfl,.inl ⟨e,rfl⟩⟩
 .rename_i r;split at d
  .rename_i g c j;cases d;simp only[aF] at e;obtain⟨b,s,i,rfl⟩:=e;obtain⟨n,l,a,m,rfl⟩:=k.rI _ _ j b s i;grind
  .cases d
 .cases d
theorem Yn (G:Inv P B ρ h w) {t:TypeId} {x D ix o v:Value} {ok:Bool} (K:aF ρ x D) (g:aF ρ ix o) (a:xR P h t x ix ok=some v):
  ∃q,(Instr.lookup t D o ok).run P w= .ok q w/\aF ρ v q:=by
 unfold xR at a
 split at a
 .rename_i e M k n H I;obtain⟨C,N,F,b⟩:=I0 H;obtain⟨s,E,y⟩:=ah G K I;simp only[aF] at g;subst g;have fin:∀(r:Option (Nat×Value)) (d:Option (Nat×Value)),(Instr.findKey C (.int k n) s).run P w= .ok d w->
    (Instr.lookup t D (.int k n) ok).run P w=(match d with
     |some (_,v)=>(.ok (if ok then .tuple #[v,.bool true] else v) w:Result Value)
     |none=>((zeroValue e).run P w).andThen fun z w=> .ok (if ok then .tuple #[z,.bool false] else z) w):=by
   intro r d f
   rcases y with⟨rfl,rfl⟩|⟨r,c,rfl,J⟩
   .unfold Instr.lookup;simp only[Sem.run_bind,run_underlying F,Result.andThen_ok,kH b,f,Sem.run_pure];cases d with
    |some p=>rfl
    |none=>simp_all
   .unfold Instr.lookup;simp only[Sem.run_bind,run_underlying F,Result.andThen_ok,qD J,kH b,f,Sem.run_pure];cases d with
    |some p=>rfl
    |none=>simp_all
  split at a
  .rename_i i v0 f;simp only[Option.some.injEq] at a;obtain⟨d,u,q,l,rfl⟩:=nP (w:=w) b E f;refine⟨_,fin none _ u,?_⟩;subst a;cases ok
   .exact l
   .show aF ρ (.tuple ⟨[v0,.bool true]⟩) (.tuple ⟨[q,.bool true]⟩);simp only[aF];exact⟨_,by simp only[lJ];exact aZ.cons l (aZ.cons (by simp only[aF]) aZ.nil),rfl⟩
  .rename_i f;simp only[Option.map_eq_some_iff] at a;obtain⟨z,L,a⟩:=a;obtain⟨d,u,j⟩:=nP (w:=w) b E f;simp only[Vq] at j;subst j;obtain⟨A,m⟩:=kj (w:=w) (ρ:=ρ) L;refine⟨_,by rw[fin none _ u,A];rfl,?_⟩;subst a;cases ok
   .exact m
   .show aF ρ (.tuple ⟨[z,.bool false]⟩) (.tuple ⟨[z,.bool false]⟩);simp only[aF];exact⟨_,by simp only[lJ];exact aZ.cons m (aZ.cons (by simp only[aF]) aZ.nil),rfl⟩
  .cases a
 .cases a
theorem kS.length:∀{es:List (Value×Value×Nat)} {a:List MapEntry},kS ρ es a->es.length=a.length
 |[],_,b=>by simp only[kS] at b;subst b;rfl
 |(_,_,_)::es,_,⟨_,_,t,_,_,c,rfl⟩=>by simp[kS.length c]
theorem kS.snoc:∀{es:List (Value×Value×Nat)} {a:List MapEntry} {k k' v v':Value} {c:Nat},kS ρ es a->aF ρ k k'->aF ρ v v'->
  kS ρ (es++[(k,v,c)]) (a++[{key:=k',val:=v',born:=c}])
 |[],_,k,k',v,v',c,e,b,d=>by simp only[kS] at e;subst e;exact⟨k',v',[],b,d,rfl,rfl⟩
 |(_,_,_)::es,_,k,k',v,v',c,⟨j,v1,t,f,g,i,rfl⟩,b,d=>⟨j,v1,_,f,g,kS.snoc i b d,rfl⟩
theorem kS.erase:∀{es:List (Value×Value×Nat)} {a:List MapEntry} (i:Nat),kS ρ es a->kS ρ (es.eraseIdx i) (a.eraseIdx i)
 |[],_,i,e=>by simp only[kS] at e;subst e;simp[kS]
 |(_,_,_)::es,_,0,⟨_,_,t,c,d,b,rfl⟩=>b
 |(_,_,_)::es,_,i+1,⟨f,v1,t,c,d,b,rfl⟩=>⟨f,v1,_,c,d,kS.erase i b,rfl⟩
theorem kS.mod:∀{es:List (Value×Value×Nat)} {a:List MapEntry} (i:Nat) {k k' v v':Value},kS ρ es a->aF ρ k k'->aF ρ v v'->
  kS ρ (es.modify i fun e=>(k,v,e.2.2)) (a.modify i fun e=>{e with key:=k',val:=v'})
 |[],_,i,k,k',v,v',j,_,_=>by simp only[kS] at j;subst j;simp[kS]
 |(_,_,_)::es,_,0,k,k',v,v',⟨_,_,t,f,g,b,rfl⟩,c,d=>⟨k',v',t,c,d,b,rfl⟩
 |(_,_,_)::es,_,i+1,k,k',v,v',⟨l,v1,t,f,g,b,rfl⟩,c,d=>⟨l,v1,_,f,g,kS.mod i b c d,rfl⟩
theorem Hh {kk k:IntKind} {n:Int}:∀(a:List MapEntry) (i:Nat) {j:Nat} {v:Value},Instr.findNow (.int kk) (.int k n) a i=some (some (j,v))->i<=j/\∃e,a[j - i]?=some e/\e.key= .int k n
 |[],i,j,v,h=>by simp[Instr.findNow] at h
 |e::c,i,j,v,h=>by
  simp only[Instr.findNow] at h;split at h;rename_i b;simp only[Option.some.injEq,Prod.mk.injEq] at h;obtain⟨rfl,rfl⟩:=h;refine⟨Nat.le_refl _,e,by simp,?_⟩;cases hk:e.key with
  |int j m=>
   rw[hk] at b;simp only[Instr.sameNow] at b;grind
  |_=>rw[hk] at b;simp[Instr.sameNow] at b
  obtain⟨f,d,g,l⟩:=Hh c (i+1) h;grind;cases h
theorem I5 (j:Inv P B ρ h w) {a:Array TypeId} {ty t k e:TypeId} {x g:Value} {es:List (Value×Value×Nat)} (b:a[0]?=some t) (d:P.underlying t=some (.map k e)) (n:aF ρ x g) (l:Yi h x=some es):
  (Builtin.len_ a ty #[g]).run P w= .ok (goInt es.length) w:=by
 obtain⟨i,f,⟨rfl,rfl⟩|⟨r,c,rfl,m⟩⟩:=ah j n l
 .have:=f.length;simp[Builtin.len_,b,run_underlying d,this]
 .have:=f.length;simp[Builtin.len_,b,run_underlying d,qD m,this]
theorem X2 (F:Inv P B ρ h w) {t:TypeId} {m O k k' x q:Value} {I:AH} (K:aF ρ m O) (J:aF ρ k k') (M:aF ρ x q) (g:Ez P h t m k x=some I):
  ∃R,(Instr.mapUpdate t O k' q).run P w= .ok () R/\lN P B ρ h w ρ I R:=by
 unfold Ez at g
 split at g
 .rename_i e r j n v;obtain⟨key,N,L,d⟩:=I0 v;split at g
  .cases g
  .rename_i C;split at g
   .rename_i S a E;simp only[Option.map_eq_some_iff] at g;obtain⟨o,l,rfl⟩:=g;simp only[aF] at K J;subst J;obtain⟨b,s,A,rfl⟩:=K;obtain⟨W,f,c,u,rfl⟩:=F.rI _ _ E b s A;unfold yl at l;split at l
    .rename_i i v0 z;simp only[Option.some.injEq] at l;subst l;obtain⟨U,G,Q,_,rfl⟩:=nP (w:=w) d u z;obtain⟨X,H,v2,_,rfl⟩:=Gj (kk:=N) S c 0 _ u z;obtain⟨_,V,D,T⟩:=Hh c 0 H;simp only[Nat.sub_zero] at D;have p:(Instr.keyThatStays (.int j n) (.int j n)).run P w= .ok (.int j n) w:=by
      simp[Instr.keyThatStays,Instr.sameBits]
     refine⟨{w with heap:=w.heap.setIfInBounds b (.map ((⟨c⟩:Array MapEntry).modify i fun e=>{e with key:= .int j n,val:=q}) a)},?_,?_⟩
     .unfold Instr.mapUpdate;simp only[Sem.run_bind,run_underlying L,Result.andThen_ok,qD f,kH d,G];rw[show((⟨c⟩:Array MapEntry)[i]?).map (·.key)=some (.int j n) by grind];simp only[Option.getD_some,p,Result.andThen_ok,yL f]
     .refine xM F (by omega) E A ?_ rfl rfl rfl rfl;refine⟨_,kS.mod i u (k':= .int j n) (v':=q) (by simp only[aF]) M,?_⟩;grind
    .rename_i z;simp only[Option.some.injEq] at l;subst l;obtain⟨U,G,y⟩:=nP (w:=w) d u z;simp only[Vq] at y;subst y;refine⟨{w with heap:=w.heap.setIfInBounds b (.map ((⟨c⟩:Array MapEntry).push {key:= .int j n,val:=q,born:=a}) (a+1))},?_,?_⟩
     .unfold Instr.mapUpdate;simp only[Sem.run_bind,run_underlying L,Result.andThen_ok,qD f,kH d,G,yL f]
     .refine xM F (by omega) E A ?_ rfl rfl rfl rfl;refine⟨_,kS.snoc u (k':= .int j n) (v':=q) (by simp only[aF]) M,?_⟩;simp
    .cases l
   .cases g
 .cases g
theorem Xy (q:Inv P B ρ h w) {a:Array TypeId} {ty t:TypeId} {m H k k':Value} {G:AH} (y:a[0]?=some t) (v:aF ρ m H) (u:aF ρ k k') (c:E8 P h t m k=some G):
  ∃I,(Builtin.delete_ a ty ⟨[H,k']⟩).run P w= .ok (.tuple #[]) I/\lN P B ρ h w ρ G I:=by
 unfold E8 at c
 split at c
 .rename_i e J n g;obtain⟨F,K,x,d⟩:=I0 g;cases c;simp only[aF] at v u;subst v u;exact⟨w,by simp[Builtin.delete_,y,run_underlying x,kH d],lN.refl q⟩
 .rename_i e r J n g;obtain⟨F,K,x,d⟩:=I0 g;split at c
  .cases c
  .rename_i A;split at c
   .rename_i M f D;simp only[aF] at v u;subst u;obtain⟨b,s,z,rfl⟩:=v;obtain⟨N,j,l,p,rfl⟩:=q.rI _ _ D b s z;split at c
    .rename_i i v0 C;simp only[Option.some.injEq] at c;subst c;obtain⟨L,E,O,_,rfl⟩:=nP (w:=w) d p C;refine⟨{w with heap:=w.heap.setIfInBounds b (.map ((⟨l⟩:Array MapEntry).eraseIdxIfInBounds i) f)},?_,?_⟩
     .simp[Builtin.delete_,y,run_underlying x,kH d,qD j,E,yL j]
     .refine xM q (by omega) D z ?_ rfl rfl rfl rfl;refine⟨_,kS.erase i p,?_⟩;grind
    .rename_i C;simp only[Option.some.injEq] at c;subst c;obtain⟨L,E,o⟩:=nP (w:=w) d p C;simp only[Vq] at o;subst o;refine⟨{w with heap:=w.heap.setIfInBounds b (.map ⟨l⟩ f)},?_,?_⟩
     .simp[Builtin.delete_,y,run_underlying x,kH d,qD j,E,yL j]
     .exact xM q (by omega) D z ⟨_,p,rfl⟩ rfl rfl rfl rfl
    .cases c
   .cases c
 .cases c
end
section
variable {P:Program} {B:Nat} {ρ:iH} {h:AH} {w:World}
theorem lJ.map {α:Type} {f g:α->Value} (b:∀x,aF ρ (f x) (g x)) (a:Array α):lJ ρ (a.map f) (a.map g):=by
 rw[jB];simp only[Array.toList_map];exact aZ.Dq b _
theorem Vw {x e v:Value} (d:aF ρ x e) (b:strOf h x=some v):∃a n c,e= .slice a n c:=by
 unfold strOf at b;split at b;simp only[aF] at d;grind;rename_i a n c;obtain⟨_,_,sp⟩:=a;cases sp with
 |none=>simp only[aF] at d;grind
 |some _=>simp only[aF] at d;grind
 cases b
theorem Mr {f:Value->ByteArray->Sem (ForInStep ByteArray)} (j:∀n s,f (.int .u8 n) s=pure (.yield (s.push (UInt8.ofNat n.toNat)))):∀(l l':List Value) (e:List UInt8) (s:ByteArray),aZ ρ l l'->zH l=some e->
  (forIn (m:=Sem) l' s f).run P w= .ok ⟨⟨s.data.toList++e⟩⟩ w
 |[],l',e,s,d,c=>by
  simp only[aZ] at d;subst d;simp only[zH,Option.some.injEq] at c;subst c;simp
 |v::l,l',e,s,d,c=>by
  simp only[aZ] at d;obtain⟨p,o,i,k,rfl⟩:=d;simp only[zH] at c;split at c;rename_i b r a g;cases c;unfold byteOf at a;split at a;cases a;simp only[aF] at i;subst i;simp only[List.forIn_cons,Sem.run_bind,j,Sem.run_pure,Result.andThen_ok];rw[Mr j l o r _ k g];simp;cases a;cases c
theorem jb (r:Inv P B ρ h w) {x p v:Value} (e:aF ρ x p) (d:strOf h x=some v):∃m,(Conv.bytesToString p).run P w= .ok m w/\aF ρ v m:=by
 unfold strOf at d;split at d;cases d;simp only[aF] at e;subst e;exact⟨.string .empty,by simp[Conv.bytesToString],by simp only[aF]⟩;rename_i a n c;split at d;rename_i t;subst t;cases d;refine⟨.string .empty,?_,by simp only[aF]⟩;obtain⟨_,_,sp⟩:=a;cases sp with
 |none=>simp only[aF] at e;obtain⟨_,_,_,_,_,_,rfl⟩:=e;simp[Conv.bytesToString,loadCells,loadCellsFrom]
 |some _=>simp only[aF] at e;obtain⟨_,_,_,_,_,_,rfl⟩:=e;simp[Conv.bytesToString,loadCells,loadCellsFrom]
 simp only[Option.map_eq_some_iff,Option.bind_eq_some_iff] at d;obtain⟨j,⟨l,k,q⟩,rfl⟩:=d;obtain⟨i,o,sp⟩:=a;cases sp with
 |some _=>simp[cU] at k
 |none=>
  simp only[aF] at e;obtain⟨b,s,z,u,_,_,rfl⟩:=e;obtain⟨y,g,f,_,_⟩:=qL r (a:=⟨i,o,none⟩) u k;refine⟨.string ⟨⟨j⟩⟩,?_,by simp only[aF]⟩;simp only[Conv.bytesToString,Sem.run_bind,g,Result.andThen_ok];rw[<-Array.forIn_toList];simp only[Sem.run_pure];rw[Mr (P:=P) (w:=w) (fun n s=>by rfl) l y j .empty f q];rfl
 cases d
set_option maxHeartbeats 1000000 in
theorem H0 (S:Inv P B ρ h w) {ev A:Operand->Value} (m:∀x,aF ρ (ev x) (A x)) (o:Oper) {v:Value} (l:bY P ev h o.op=some v):
  ∃F,(execOp A o).run P w= .ok (.value F) w/\aF ρ v F:=by
 obtain⟨dst,op,ty,pos,after,guard⟩:=o
 simp only at l
 cases op with
 |move x=>simp only[bY,Option.some.injEq] at l;subst l;exact⟨_,rfl,m x⟩
 |assign x=>simp only[bY,Option.some.injEq] at l;subst l;exact⟨_,rfl,m x⟩
 |pick c a b=>
  simp only[bY] at l
  split at l
  .rename_i t G;have q:=m c;rw[G] at q;simp only[aF] at q;simp only[Option.some.injEq] at l;subst l;refine⟨if t then A a else A b,?_,by cases t<;>simp[m]⟩;simp[execOp,q,asBool]
  .cases l
 |build t M=>
  simp only[bY] at l
  obtain⟨F,K,r⟩:=Uu (w:=w) (parts':=M.map fun p=>(p.1,A p.2)) (by
   simp only[Array.toList_map];exact Nq.map (f:=fun p:Nat×Operand=>ev p.2) (g:=fun p=>A p.2) (k:=fun p=>p.1) (fun p=>m p.2) _) l
  refine⟨F,?_,r⟩
  show(do pure (Next.value (<-Instr.build t (M.map fun(i,x)=>(i,A x)))):Sem Next).run P w=_
  simp_all
 |load t a=>
  simp only[bY] at l
  split at l
  .rename_i a0 N;have q:=m a;rw[N] at q;obtain⟨F,K,r⟩:=I9 S q l;exact⟨F,by simp[execOp,K],r⟩
  .cases l
 |nilCheck x=>
  simp only[bY] at l
  split at l
  .rename_i a N;have q:=m x;rw[N] at q;simp only[Option.some.injEq] at l;subst l;have D:=q;simp only[aF] at q;obtain⟨b,s,O,H⟩:=q;exact⟨A x,by simp[execOp,H],D⟩
  .rename_i f a b N;have q:=m x;rw[N] at q;simp only[Option.some.injEq] at l;subst l;have D:=q;simp only[aF,Ef] at q;obtain⟨_,_,_,rfl,_,_,H⟩:=q;exact⟨A x,by simp[execOp,H],D⟩
  .rename_i f a b N;have q:=m x;rw[N] at q;simp only[Option.some.injEq] at l;subst l;have D:=q;simp only[aF,Ef] at q;obtain⟨_,_,_,⟨_,_,_,rfl⟩,_,_,H⟩:=q;exact⟨A x,by simp[execOp,H],D⟩
  .cases l
 |binOp op t x y yt=>
  simp only[bY] at l
  obtain⟨F,K,r⟩:=ik (P:=P) (w:=w) (m x) (m y) l
  refine⟨F,?_,r⟩
  show(do pure (Next.value (<-(do eqGuard op t x y (A x) (A y);binOp op t (A x) (A y)))):Sem Next).run P w=_
  rw[Sem.run_bind,K]
  rfl
 |unOp op t x=>
  simp only[bY] at l
  split at l
  .rename_i k n E;have q:=m x;rw[E] at q;simp only[aF] at q;simp only[Option.some.injEq] at l;subst l;exact⟨.int k (k.wrap (0 - n)),by simp[execOp,q,Op.unary,Op.intArith],by simp only[aF]⟩
  .rename_i b E;have q:=m x;rw[E] at q;simp only[aF] at q;simp only[Option.some.injEq] at l;subst l;exact⟨.bool !b,by simp[execOp,q,Op.unary],by simp only[aF]⟩
  .cases l
 |convert s d x=>
  simp only[bY] at l
  split at l
  .rename_i ds k _ n Q I E;have q:=m x;rw[E] at q;simp only[aF] at q;simp only[Option.some.injEq] at l;subst l;exact⟨.int k (k.wrap n),by simp[execOp,q,convert,run_underlying Q,run_underlying I,Conv.intToInt],by simp only[aF]⟩
  .rename_i z Q I E;have q:=m x;rw[E] at q;simp only[aF] at q;simp only[Option.some.injEq] at l;subst l;exact⟨.string z,by simp[execOp,q,convert,run_underlying Q,run_underlying I],by simp only[aF]⟩
  .rename_i e Q I;split at l
   .rename_i H;obtain⟨F,K,r⟩:=jb S (m x) l;refine⟨F,?_,r⟩;have W:(convert s d (A x)).run P w= .ok F w:=by
     obtain⟨a,n,c,E⟩:=Vw (m x) l;rw[E] at K ⊢;simp[convert,run_underlying Q,run_underlying I,run_underlying H,K]
    simp[execOp,W]
   .cases l
  .cases l
 |makeInterface t x=>
  simp only[bY] at l
  split at l
  .cases l
  .rename_i d I Z;simp only[Option.some.injEq] at l;subst l;refine⟨.iface t (A x),?_,by simp only[aF];exact⟨_,m x,rfl⟩⟩;have:P.concrete t=true:=by
    unfold Program.concrete;rw[Z];cases d<;>grind
   simp[execOp,run_makeInterface w t (A x) this]
  .cases l
 |makeFunc fn first L=>
  simp only[bY] at l
  split at l
  .rename_i f;simp only[Option.some.injEq] at l;subst l;refine⟨.func (.func f) (first.map A) (L.map A),by simp[execOp,Instr.makeFunc],?_⟩;simp only[aF,Ef];exact⟨_,_,_,rfl,lJ.map m _,lJ.map m _,rfl⟩
  .cases l
 |slice t x lo Y mx=>
  simp only[bY] at l
  obtain⟨F,K,r⟩:=T3 S (m x) (zZ.map m lo) (zZ.map m Y) (zZ.map m mx) l
  exact⟨F,by simp[execOp,K],r⟩
 |fieldAddr s x f=>
  simp only[bY] at l
  split at l
  .rename_i fs a I E;have q:=m x;rw[E] at q;simp only[aF] at q;obtain⟨b,sp,O,H⟩:=q;split at l
   .rename_i fd X;split at l
    .cases l
    .rename_i hn;simp only[Option.some.injEq] at l;subst l;obtain⟨i,C,_⟩:=Ns hn;refine⟨.pointer (some (Addr.add ⟨b,a.off+sp.2,a.spot⟩ fd.offset)),?_,?_⟩
     .simp[execOp,H,Instr.fieldAt,run_underlying I,X,Instr.sureAddr,fieldPlace,gA C,hn]
     .simp only[aF];refine⟨b,sp,?_,?_⟩
      .unfold Addr.add;split<;>exact O
      .unfold Addr.add;grind
   .cases l
  .cases l
 |field t x f=>
  simp only[bY] at l
  split at l
  .rename_i fs cs I E;have q:=m x;rw[E] at q;simp only[aF] at q;obtain⟨U,G,H⟩:=q;split at l
   .rename_i fd X;obtain⟨F,K,r⟩:=xB (P:=P) (w:=w) l (jB.1 G);exact⟨F,by simp[execOp,H,Instr.field,run_underlying I,X,asAgg,K],r⟩
   .cases l
  .cases l
 |indexAddr t x i=>
  simp only[bY] at l
  split at l
  .rename_i n e a k j I E J;have q:=m x;have D:=m i;rw[E] at q;rw[J] at D;simp only[aF] at q D;obtain⟨b,sp,O,H⟩:=q;split at l
   .rename_i G;simp only[Option.some.injEq] at l;subst l;obtain⟨inf,C⟩:=Option.isSome_iff_exists.1 G.2.2;refine⟨.pointer (some (Addr.add ⟨b,a.off+sp.2,a.spot⟩ (j.toNat*P.cellsOf e))),?_,?_⟩
    .simp[execOp,H,D,Instr.indexAt,asIntOf,run_underlying I,Instr.sureAddr,G.1,G.2.1,gA C]
    .simp only[aF];refine⟨b,sp,?_,?_⟩
     .unfold Addr.add;split<;>exact O
     .unfold Addr.add;grind
   .cases l
  .rename_i e a n c k j I E J;have q:=m x;have D:=m i;rw[E] at q;rw[J] at D;split at l
   .rename_i G;obtain⟨ab,ao,T⟩:=a;obtain rfl:T=none:=G.2.2.2;simp only[aF] at q D;obtain⟨b,sp,c',O,_,_,H⟩:=q;simp only[Option.some.injEq] at l;subst l;obtain⟨inf,C⟩:=Option.isSome_iff_exists.1 G.2.2.1;refine⟨.pointer (some (Addr.add ⟨b,ao+sp.2,none⟩ (j.toNat*P.cellsOf e))),?_,?_⟩
    .simp[execOp,H,D,Instr.indexAt,asIntOf,run_underlying I,G.1,G.2.1,gA C]
    .rw[dE,dE];simp only[aF];grind
   .cases l
  .cases l
 |index t x i=>
  simp only[bY] at l
  split at l
  .rename_i n e cs k j I E J;have q:=m x;have D:=m i;rw[E] at q;rw[J] at D;simp only[aF] at q D;obtain⟨U,V,H⟩:=q;split at l
   .rename_i G;obtain⟨inf,C⟩:=Option.isSome_iff_exists.1 G.2.2;obtain⟨F,K,r⟩:=xB (P:=P) (w:=w) l (jB.1 V);exact⟨F,by simp[execOp,H,D,Instr.index,asIntOf,run_underlying I,G.1,G.2.1,gA C,K],r⟩
   .cases l
  .rename_i s k j I E J;have q:=m x;have D:=m i;rw[E] at q;rw[J] at D;simp only[aF] at q D;split at l
   .rename_i G;simp only[Option.map_eq_some_iff] at l;obtain⟨u,hu,rfl⟩:=l;exact⟨.int .u8 u.toNat,by simp[execOp,q,D,Instr.index,asIntOf,run_underlying I,G,hu],by simp only[aF]⟩
   .cases l
  .cases l
 |extract t i=>
  simp only[bY] at l
  split at l
  .rename_i vs ht;have q:=m t;rw[ht] at q;simp only[aF] at q;obtain⟨α,G,H⟩:=q;obtain⟨F,R,r⟩:=(jB.1 G).get l;exact⟨F,by simp only[Array.getElem?_toList] at R;simp[execOp,H,Instr.extract,R],r⟩
  .cases l
 |lookup t x ix ok=>
  simp only[bY] at l
  obtain⟨F,K,r⟩:=Yn S (m x) (m ix) l
  exact⟨F,by simp[execOp,K],r⟩
 |_=>simp only[bY] at l;cases l
theorem xU (f:Nat->Value):(Array.range 0).map f= #[]:=by grind
theorem xC {z:List Value} {size:Nat} (c:z.length=size) (n:Nat):((Array.range (n*size)).map fun i=>(⟨z⟩:Array Value)[i % (⟨z⟩:Array Value).size]!)=⟨eJ z n⟩:=by
 apply Array.ext';simp only[Array.toList_map,Array.toList_range];show(List.range (n*size)).map (fun i=>(⟨z⟩:Array Value)[i % z.length]!)=eJ z n;subst c;induction n with
 |zero=>simp[eJ]
 |succ n d=>
  rw[Nat.succ_mul,List.range_add,List.map_append,d];unfold eJ;rw[List.replicate_succ',List.flatten_append];congr 1;simp only[List.flatten_cons,List.flatten_nil,List.append_nil,List.map_map];apply List.ext_getElem;simp;intro j a b;simp at a b;simp only[List.getElem_map,List.getElem_range,Function.comp];have e:(n*z.length+j) % z.length=j:=by rw[Nat.mul_comm,Nat.mul_add_mod,Nat.mod_eq_of_lt (by omega)]
  grind
theorem C2 {z:List Value} (a:aZ ρ z z) (n:Nat):aZ ρ (eJ z n) (eJ z n):=by
 unfold eJ;induction n with
 |zero=>exact aZ.nil
 |succ n b=>rw[List.replicate_succ,List.flatten_cons];exact a.append b
theorem Hx {ev d:Operand->Value} (q:∀x,aF ρ (ev x) (d x)) (o:Oper) {b:nI} {f:Nat->Value} (a:gQ P ev o.op=some (b,f)):
  ∃(o':Obj) (g:Nat->Value),uF P ρ (0,0) b o'/\(execOp d o).run P w= .ok (.value (g w.heap.size)) (w.alloc o')/\∀(ρ':iH) i s,s.2=0->ρ' i=some (w.heap.size,s)->aF ρ' (f i) (g w.heap.size):=by
 obtain⟨dst,op,ty,pos,after,guard⟩:=o
 simp only at a
 cases op with
 |alloc e=>
  simp only[gQ,Option.map_eq_some_iff] at a
  obtain⟨z,T,a⟩:=a
  cases a
  obtain⟨i,N,M,_,v,m,D,y⟩:=tS (w:=w) T
  refine⟨.cells N.cells e,fun n=> .pointer (some ⟨n,0,none⟩),⟨N.cells,rfl,?_,?_,fun _=>⟨rfl,rfl⟩⟩,?_,?_⟩
  .simp only[List.drop_zero];rw[m,List.take_of_length_le (Nat.le_refl _)];exact y ρ
  .rw[<-m];simp
  .simp[execOp,Instr.alloc,v,newVar,newRow]
  .intro ρ' i s C A;simp only[aF];exact⟨_,_,A,by rw[C]⟩
 |box e x=>
  simp only[gQ,Option.map_eq_some_iff] at a
  obtain⟨l,F,a⟩:=a
  cases a
  unfold iX at F
  split at F
  .cases F
  .rename_i ht;cases F;have L:=(q x).cells (by simpa using ht);have α:=L.length;refine⟨.cells (d x).cells e,fun n=> .pointer (some ⟨n,0,none⟩),⟨_,rfl,?_,?_,fun _=>⟨rfl,rfl⟩⟩,?_,?_⟩
   .grind
   .grind
   .simp[execOp,Instr.box,newVar,newRow]
   .intro ρ' i s C A;simp only[aF];exact⟨_,_,A,by rw[C]⟩
 |buildSlice t len j=>
  simp only[gQ] at a
  split at a
  .rename_i e Q;split at a
   .rename_i z T;obtain⟨i,N,M,_,v,m,D,y⟩:=tS (w:=w) T;split at a
    .rename_i hle;simp only[Option.map_eq_some_iff] at a;obtain⟨l,F,a⟩:=a;cases a;obtain⟨r',X,S⟩:=Eo _ (j.map fun p=>(p.1,d p.2)).toList _ _ l (by
      simp only[Array.toList_map];exact Nq.map (f:=fun p:Nat×Operand=>ev p.2) (g:=fun p=>d p.2) (k:=fun p=>p.1) (fun p=>q p.2) _) (C2 (y ρ) len) F
     have β:=S.length
     have K:N.cells=⟨z⟩:=by rw[<-m]
     refine⟨.cells ⟨r'⟩ e,fun n=> .slice (some ⟨n,0,none⟩) len len,⟨_,rfl,?_,?_,fun _=>⟨rfl,rfl⟩⟩,?_,?_⟩
     .grind
     .show 0+l.length+0*_<=r'.length;omega
     .have R:¬len*P.cellsOf e>2^24:=by omega
      have J:Instr.fill (fun i=>some (i*P.cellsOf e,P.cellsOf e)) ⟨eJ z len⟩ (j.map fun(x:Nat×Operand)=>(x.1,d x.2)).toList=some ⟨r'⟩:=X
      show(do pure (Next.value (<-Instr.buildSlice t len (j.map fun(i,x)=>(i,d x)))):Sem Next).run P w=_
      simp only[Instr.buildSlice,Sem.run_bind,run_underlying Q,Result.andThen_ok,gA M,R,if_false]
      have L:=xC D len
      by_cases E:len*P.cellsOf e=0
      .have u:(⟨eJ z len⟩:Array Value)= #[]:=by rw[<-L,E,xU]
       rw[u] at J
       simp only[E,if_true,Sem.run_bind,Sem.run_pure,Result.andThen_ok]
       rw[xU,J]
       simp[newRow]
      .simp only[E,if_false,Sem.run_bind,v,Sem.run_pure,Result.andThen_ok,K];rw[L,J];simp[newRow]
     .intro ρ' i s C A;simp only[aF];exact⟨_,_,_,A,Nat.le_refl _,Nat.le_add_right _ _,by rw[C]⟩
    .cases a
   .cases a
  .cases a
 |makeSlice t l c=>
  simp only[gQ] at a
  split at a
  .rename_i e k1 U k2 cc Q F L;split at a
   .rename_i z T;obtain⟨i,N,M,_,v,m,D,y⟩:=tS (w:=w) T;split at a
    .rename_i H;obtain⟨E,V,h2,h3⟩:=H;simp only[Option.some.injEq,Prod.mk.injEq] at a;obtain⟨rfl,rfl⟩:=a;have I:=q l;have G:=q c;rw[F] at I;rw[L] at G;simp only[aF] at I G;have K:N.cells=⟨z⟩:=by rw[<-m]
     have hb:i.bytes=P.bytesOf e:=by simp[Program.bytesOf,M]
     refine⟨.cells ⟨eJ z cc.toNat⟩ e,fun n=> .slice (some ⟨n,0,none⟩) U.toNat cc.toNat,⟨_,rfl,?_,?_,fun _=>⟨rfl,rfl⟩⟩,?_,?_⟩
     .simp only[List.drop_zero];rw[List.take_of_length_le (Nat.le_refl _)];exact C2 (y ρ) _
     .show 0+(eJ z cc.toNat).length+0*_<=(eJ z cc.toNat).length;omega
     .have Z:IntKind.i64.wrap U=U:=IntWalk.i64_in _ ⟨by omega,by omega⟩;have Y:IntKind.i64.wrap cc=cc:=IntWalk.i64_in _ ⟨by omega,by omega⟩;have t1:(typeInfo e).run P w= .ok i w:=by simp[typeInfo,M]
      have W:((decide (cc<0)||decide ((i.bytes:Int)*cc>2^48))||decide (U<0)||decide (U>cc))=false:=by
       grind
      simp only[execOp,I,G,Instr.makeSlice,Sem.run_bind,run_underlying Q,Result.andThen_ok,asInt,asIntOf,Sem.run_pure,t1,Z,Y,W,Bool.false_eq_true,if_false,run_askRoom,gA M]
      have O:=xC D cc.toNat
      by_cases E:cc.toNat*P.cellsOf e=0
      .have u:(⟨eJ z cc.toNat⟩:Array Value)= #[]:=by rw[<-O,E,xU]
       rw[u]
       simp only[E,if_true,Sem.run_bind,Sem.run_pure,Result.andThen_ok]
       rw[xU]
       simp[newRow]
      .simp only[E,if_false,Sem.run_bind,v,Sem.run_pure,Result.andThen_ok,K];rw[O];simp[newRow]
     .intro ρ' i s C A;simp only[aF];exact⟨_,_,_,A,Nat.le_refl _,Nat.le_add_right _ _,by rw[C]⟩
    .cases a
   .cases a
  .cases a
 |makeMap t r=>
  cases r with
  |none=>
   simp only[gQ,Option.some.injEq,Prod.mk.injEq] at a
   obtain⟨rfl,rfl⟩:=a
   refine⟨.map #[] 0,fun n=> .map (some n),⟨[],rfl,rfl⟩,rfl,?_⟩
   intro ρ' i s C A;simp only[aF];grind
  |some x=>
   simp only[gQ] at a
   split at a
   .rename_i γ elem k n Q hx;simp only[Option.some.injEq,Prod.mk.injEq] at a;obtain⟨rfl,rfl⟩:=a;have V:=q x;rw[hx] at V;simp only[aF] at V;refine⟨.map #[] 0,fun n=> .map (some n),⟨[],rfl,rfl⟩,by simp[execOp,Instr.makeMap,V,run_underlying Q,asInt,asIntOf],?_⟩;intro ρ' i s C A;simp only[aF];grind
   .cases a
 |_=>simp only[gQ] at a;cases a
end
end Go.Ab
