/- A part of the proof. -/
import Derived.WalkKit
import Derived.AtR
import Derived.ChangeKeysEq
section
namespace Go.Ab
theorem aN9.{u} {c:Prop} {_:Decidable c} (n:¬c) {α:Sort u} {t e:α}:ite c t e=e:=if_neg n
theorem aab.{u} {c:Prop} {_:Decidable c} {α:Sort u} {t e:α}(n:¬c:=by omega):ite c t e=e:=if_neg n
theorem aNa.{u} {c:Prop} {_:Decidable c} (n:c) {α:Sort u} {t e:α}:ite c t e=t:=if_pos n
theorem aae.{u} {c:Prop} {_:Decidable c} {α:Sort u} {t e:α}(n:c:=by omega):ite c t e=t:=if_pos n
end Go.Ab
namespace Go.Ab
noncomputable section
def top:Value:= .chan none
def wO:Value->Bool
 |.chan _=>true
 |_=>false
def dV:Value->Bool
 |.agg _|.tuple _|.chan _=>false
 |_=>true
mutual
def dR:Value->Bool
 |.bool _|.int _ _|.string _|.pointer none|.slice none _ _|.map none|.nilFunc|.nilIface=>true
 |.iface _ v=>dR v
 |.agg a=>uX a
 |.tuple a=>uX a
 |_=>false
def uX:Array Value->Bool
 |⟨l⟩=>oK l
def oK:List Value->Bool
 |[]=>true
 |v::l=>dR v&&oK l
end
abbrev hU:=Nat->Option (Nat×(Nat×Nat))
def Dv (ρ:hU):Fn->Fn->Prop
 |.yield l,g=>∃b s,ρ l=some (b,s)/\g= .yield b
 |f,g=>g=f
mutual
def aE (ρ:hU):Value->Value->Prop
 |.bool b,d=>d= .bool b
 |.int k n,d=>d= .int k n
 |.float k n,d=>d= .float k n
 |.complex k n m,d=>d= .complex k n m
 |.string s,d=>d= .string s
 |.pointer none,d=>d= .pointer none
 |.pointer (some a),d=>∃b s,ρ a.block=some (b,s)/\d= .pointer (some ⟨b,a.off+s.2,a.spot⟩)
 |.slice none l c,d=>d= .slice none l c
 |.slice (some ⟨i,o,some x⟩) l c,d=>l=0/\c=0/\∃q f,(x=1->f=0)/\(x=2->∃b s,ρ i=some (b,s)/\f<=s.1/\(0<f->q=⟨b,o+s.2,none⟩))/\d= .slice (some q) 0 f
 |.slice (some ⟨i,o,none⟩) l c,d=>∃b s f,ρ i=some (b,s)/\c<=f/\f<=c+s.1/\d= .slice (some ⟨b,o+s.2,none⟩) l f
 |.map none,d=>d= .map none
 |.map (some r),d=>∃b s,ρ r=some (b,s)/\d= .map (some b)
 |.chan none,_=>True
 |.chan (some _),_=>False
 |.func y z g,d=>∃j p e,Dv ρ y j/\kJ ρ z p/\kJ ρ g e/\d= .func j p e
 |.nilFunc,d=>d= .nilFunc
 |.iface t v,d=>∃u,aE ρ v u/\d= .iface t u
 |.nilIface,d=>d= .nilIface
 |.agg g,d=>∃e,kJ ρ g e/\d= .agg e
 |.tuple g,d=>∃e,kJ ρ g e/\d= .tuple e
def kJ (ρ:hU):Array Value->Array Value->Prop
 |⟨l⟩,a=>aR ρ l a.toList
def aR (ρ:hU):List Value->List Value->Prop
 |[],a=>a=[]
 |v::l,a=>∃c b,aE ρ v c/\aR ρ l b/\a=c::b
end
inductive mR where
 |cells (c:List Value) (elem:TypeId) (fz:Nat×Nat) (exact:Bool)
 |loop (st:LoopState) (pending:Option Code) (fn:FuncId) (tmps:List Value) (params:Array Tmp) (assign body:Code) (defers:Nat)
 |marks (here:Bool)
 |map (es:List (Value×Value×Nat)) (clock:Nat)
 |mapIter (m:Option Nat) (since:Nat) (seen:List Nat) (last:Nat)
 |dy (s:ByteArray) (pos:Nat)
inductive Tr (α:Type) where
 |lf
 |nd (v:α) (l r:Tr α)
noncomputable def Tr.get {α:Type} (d:α) (t:Tr α):Nat->α:=
 Tr.rec (motive:=fun _=>Nat->α) (fun _=>d) (fun v _ _ gl gr n=>Nat.rec (motive:=fun _=>α) v (fun m _=>Nat.rec (motive:=fun _=>α) (gl (Nat.div m 2)) (fun _ _=>gr (Nat.div m 2)) (Nat.mod m 2)) n) t
noncomputable def Tr.path {α:Type} (d:α) (f:Nat):Nat->α->Tr α:=
 Nat.rec (motive:=fun _=>Nat->α->Tr α) (fun _ _=> .lf) (fun _ a n o=>Nat.rec (motive:=fun _=>Tr α) (.nd o .lf .lf) (fun m _=>Nat.rec (motive:=fun _=>Tr α) (.nd d (a (Nat.div m 2) o) .lf) (fun _ _=> .nd d .lf (a (Nat.div m 2) o)) (Nat.mod m 2)) n) f
noncomputable def Tr.set {α:Type} (d:α) (t:Tr α):Nat->α->Tr α:=
 Tr.rec (motive:=fun _=>Nat->α->Tr α) (fun n o=>Tr.path d (n+1) n o)
  (fun v l r a b n o=>Nat.rec (motive:=fun _=>Tr α) (.nd o l r) (fun m _=>Nat.rec (motive:=fun _=>Tr α) (.nd v (a (Nat.div m 2) o) r) (fun _ _=> .nd v l (b (Nat.div m 2) o)) (Nat.mod m 2)) n) t
theorem Rb {β:Type} (n:Nat) (a b:β):Nat.rec (motive:=fun _=>β) a (fun _ _=>b) (Nat.mod n 2)=if n % 2=0 then a else b:=by
 show Nat.rec (motive:=fun _=>β) a (fun _ _=>b) (n % 2)=_;cases n % 2<;>rfl
theorem Tr.Kd {α:Type} (d:α) (n:Nat):(Tr.lf:Tr α).get d n=d:=rfl
theorem Tr.N3 {α:Type} (d v:α) (l r:Tr α):(Tr.nd v l r).get d 0=v:=rfl
theorem Tr.G8 {α:Type} (d v:α) (l r:Tr α) (n:Nat):(Tr.nd v l r).get d (n+1)=if n % 2=0 then l.get d (n/2) else r.get d (n/2):=Rb _ _ _
theorem Tr.aFq {α:Type} (d:α) (f:Nat) (o:α):Tr.path d (f+1) 0 o= .nd o .lf .lf:=rfl
theorem Tr.aG0 {α:Type} (d:α) (f n:Nat) (o:α):Tr.path d (f+1) (n+1) o=if n % 2=0 then .nd d (Tr.path d f (n/2) o) .lf else .nd d .lf (Tr.path d f (n/2) o):=Rb _ _ _
theorem Tr.aH6 {α:Type} (d:α) (n:Nat) (o:α):(Tr.lf:Tr α).set d n o=Tr.path d (n+1) n o:=rfl
theorem Tr.aJ2 {α:Type} (d v:α) (l r:Tr α) (o:α):(Tr.nd v l r).set d 0 o= .nd o l r:=rfl
theorem Tr.aJb {α:Type} (d v:α) (l r:Tr α) (n:Nat) (o:α):(Tr.nd v l r).set d (n+1) o=if n % 2=0 then .nd v (l.set d (n/2) o) r else .nd v l (r.set d (n/2) o):=Rb _ _ _
theorem Tr.U7 {α:Type} (d:α):∀(f n m:Nat) (o:α),n<f->(Tr.path d f n o).get d m=if m=n then o else d
 |0,n,_,_,h=>absurd h (Nat.not_lt_zero n)
 |f+1,0,m,o,_=>by
  rw[Tr.aFq];cases m with
  |zero=>simp[Tr.N3]
  |succ m=>simp[Tr.G8,Tr.Kd]
 |f+1,n+1,m,o,h=>by
  have c:=fun m=>Tr.U7 d f (n/2) m o (by omega);rw[Tr.aG0];by_cases b:n % 2=0;rw[aNa b];cases m with
  |zero=>simp[Tr.N3]
  |succ m=>
   rw[Tr.G8];by_cases a:m % 2=0;grind;rw[aN9 a,Tr.Kd];grind
  rw[aN9 b];cases m with
  |zero=>simp[Tr.N3]
  |succ m=>
   rw[Tr.G8];by_cases a:m % 2=0;rw[aNa a,Tr.Kd];grind;grind
theorem Tr.gM {α:Type} (d:α):∀(t:Tr α) (n m:Nat) (o:α),(t.set d n o).get d m=if m=n then o else t.get d m
 |.lf,n,m,o=>by rw[Tr.Kd,Tr.aH6];exact Tr.U7 d (n+1) n m o (Nat.lt_succ_self _)
 |.nd v l r,0,m,o=>by
  rw[Tr.aJ2];cases m with
  |zero=>simp[Tr.N3]
  |succ m=>simp[Tr.G8]
 |.nd v l r,n+1,m,o=>by
  rw[Tr.aJb];by_cases b:n % 2=0;rw[aNa b];cases m with
  |zero=>simp[Tr.N3]
  |succ m=>
   rw[Tr.G8,Tr.G8];by_cases a:m % 2=0;rw[aNa a,aNa a,Tr.gM d l];grind;grind
  rw[aN9 b];cases m with
  |zero=>simp[Tr.N3]
  |succ m=>
   rw[Tr.G8,Tr.G8];by_cases a:m % 2=0;grind;rw[aN9 a,aN9 a,Tr.gM d r];grind
structure AH where
 base:Nat
 next:Nat
 old:Nat->Option mR
 new:Tr (Option mR)
def AH.get (h:AH) (i:Nat):Option mR:=AH.rec (motive:=fun _=>Option mR) (fun a _ b new=>Bool.rec (motive:=fun _=>Option mR) (new.get none (Nat.sub i a)) (b i) (Nat.blt i a)) h
def AH.set (h:AH) (i:Nat) (o:Option mR):AH:=AH.rec (motive:=fun _=>AH) (fun a next b new=>Bool.rec (motive:=fun _=>AH) ⟨a,next,b,new.set none (Nat.sub i a) o⟩ ⟨a,next,b,new⟩ (Nat.blt i a)) h
def AH.alloc (h:AH) (o:mR):AH:=AH.rec (motive:=fun _=>AH) (fun a next b new=>⟨a,Nat.succ next,b,new.set none (Nat.sub next a) (some o)⟩) h
theorem AH.get_eq (h:AH) (i:Nat):h.get i=if i<h.base then h.old i else h.new.get none (i - h.base):=by
 obtain⟨a,next,b,new⟩:=h;simp only[AH.get];cases hb:Nat.blt i a with
 |true=>simp_all
 |false=>rw[aN9 (by rw[<-Nat.blt_eq,hb];simp)];rfl
theorem AH.Lz (h:AH) (i:Nat) (o:Option mR):h.set i o=if i<h.base then h else {h with new:=h.new.set none (i - h.base) o}:=by
 obtain⟨a,next,b,new⟩:=h;simp only[AH.set];cases hb:Nat.blt i a with
 |true=>simp_all
 |false=>rw[aN9 (by rw[<-Nat.blt_eq,hb];simp)];rfl
theorem AH.alloc_eq (h:AH) (o:mR):h.alloc o={h with new:=h.new.set none (h.next - h.base) (some o),next:=h.next+1}:=rfl
theorem AH.gM {h:AH} {i j:Nat} {o:Option mR} (a:h.base<=i):(h.set i o).get j=if j=i then o else h.get j:=by
 rw[AH.Lz,aN9 (Nat.not_lt.2 a),AH.get_eq,AH.get_eq];by_cases b:j<h.base;grind;simp only[b,if_false,Tr.gM];grind
@[simp] theorem AH.Lj {h:AH} {i:Nat} {o:Option mR}:(h.set i o).base=h.base:=by rw[AH.Lz];split<;>rfl
@[simp] theorem AH.zm {h:AH} {i:Nat} {o:Option mR}:(h.set i o).next=h.next:=by rw[AH.Lz];split<;>rfl
@[simp] theorem AH.aH0 {h:AH} {o:mR}:(h.alloc o).base=h.base:=rfl
@[simp] theorem AH.aG8 {h:AH} {o:mR}:(h.alloc o).next=h.next+1:=rfl
theorem AH.wW {h:AH} {j:Nat} {o:mR} (hb:h.base<=h.next):(h.alloc o).get j=if j=h.next then some o else h.get j:=by
 rw[AH.alloc_eq,AH.get_eq,AH.get_eq];by_cases a:j<h.base;grind;simp only[a,if_false,Tr.gM];grind
def bV (c:List Value) (a:Nat) (xs:List Value):List Value:=c.take a++xs++c.drop (a+xs.length)
end
end Go.Ab
end
section
namespace Go.Ab
noncomputable section
def iQ (P:Program) (t:TypeId):Option Bool:=
 (P.underlying t).map fun|.struct _|.array _ _=>true|_=>false
def zeroOf (P:Program) (t:TypeId):Option (List Value):=
 ((P.info? t).bind (·.zero)).bind fun z=>
  if dR z&&z.cells.toList.all dV&&z.cells.size==P.cellsOf t then some z.cells.toList else none
def bytesOf (P:Program) (t:TypeId):Nat:=P.bytesOf t
def bZ (h:AH) (a:Addr) (n:Nat):Option (List Value):=
 if a.spot.isSome then none else
 match h.get a.block with
 |some (.cells c _ _ _)=>if a.off+n<=c.length then some ((c.drop a.off).take n) else none
 |_=>none
def tL (P:Program) (h:AH) (t:TypeId) (a:Addr):Option Value:=
 match iQ P t with
 |some true=>(bZ h a (P.cellsOf t)).map fun l=> .agg ⟨l⟩
 |some false=>
  if a.spot.isSome then none else
  match h.get a.block with
  |some (.cells c _ _ _)=>c[a.off]?
  |_=>none
 |none=>none
def dI (h:AH) (a:Addr) (vs:List Value):Option AH:=
 if a.spot.isSome||a.block<h.base|| !vs.all dV then none else
 match h.get a.block with
 |some (.cells c e b x)=>if b.2=0/\a.off+vs.length<=c.length then some (h.set a.block (some (.cells (bV c a.off vs) e b x))) else none
 |_=>none
def iE (v:Value):Option (List Value):=if wO v then none else some v.cells.toList
def I3 (P:Program) (h:AH) (t:TypeId) (a:Addr) (v:Value):Option AH:=
 match iE v with
 |some b=>if b.length=P.cellsOf t/\(P.info? t).isSome then dI h a b else none
 |none=>none
def apart (P:Program) (t:TypeId) (cs:List Value) (a:Nat):Option Value:=
 match iQ P t with
 |some true=>if a+P.cellsOf t<=cs.length then some (.agg ⟨(cs.drop a).take (P.cellsOf t)⟩) else none
 |some false=>cs[a]?
 |none=>none
def E6 (place:Nat->Option (Nat×Nat)) (cells:List Value):List (Nat×Value)->Option (List Value)
 |[]=>some cells
 |(i,v)::rest=>
  match place i,iE v with
  |some (a,size),some b=>if b.length=size/\a+b.length<=cells.length then E6 place (bV cells a b) rest else none
  |_,_=>none
def F9 (P:Program) (t:TypeId) (a:List (Nat×Value)):Option Value:=
 match zeroOf P t,P.underlying t with
 |some z,some (.struct b)=>
  if b.all (fun f=>(P.info? f.type).isSome) then(E6 (fun i=>(b[i]?).map fun f=>(f.offset,P.cellsOf f.type)) z a).map fun l=> .agg ⟨l⟩ else none
 |some z,some (.array _ e)=>
  if(P.info? e).isSome then(E6 (fun i=>some (i*P.cellsOf e,P.cellsOf e)) z a).map fun l=> .agg ⟨l⟩ else none
 |_,_=>none
def dY (z:List Value) (n:Nat):List Value:=(List.replicate n z).flatten
def jZ (v:Option Value) (a:Nat) (b:Nat):Option Nat:=
 match v with
 |none=>some a
 |some (.int _ i)=>if 0<=i/\i<=b then some i.toNat else none
 |some _=>none
def yS (a:Addr):Value:= .slice (some ⟨a.block,a.off,some 2⟩) 0 0
def tC:Value:= .slice (some ⟨0,0,some 1⟩) 0 0
def aGd:Value:= .slice (some ⟨0,0,some 0⟩) 0 0
def pV (h:AH) (i:Nat):Option Bool:=match h.get i with|some (.cells _ _ _ x)=>some x|_=>none
def tB (P:Program) (h:AH) (t:TypeId) (x:Value) (g f d:Option Value):Option Value:=
 match P.underlying t,x with
 |some (.array n e),.pointer (some a)=>
  match jZ d n n with
  |some m=>match(if f.isNone&&d.isSome then none else jZ f n m) with
   |some c=>match jZ g 0 c with
    |some l=>if(P.info? e).isSome/\a.spot=none then some (.slice (some (if m=l then a else a.add (l*P.cellsOf e))) (c - l) (m - l)) else none
    |none=>none
   |none=>none
  |none=>none
 |some .string,.string s=>
  if d.isSome then none else
  match jZ f s.size s.size with
  |some c=>match jZ g 0 c with
   |some l=>some (.string (s.extract l c))
   |none=>none
  |none=>none
 |some (.slice e),.slice none len b=>
  match jZ d b b with
  |some m=>match(if f.isNone&&d.isSome then none else jZ f len m) with
   |some c=>match jZ g 0 c with
    |some l=>if(P.info? e).isSome then some (.slice none (c - l) (m - l)) else none
    |none=>none
   |none=>none
  |none=>none
 |some (.slice e),.slice (some a) len b=>
  match jZ d b b with
  |some m=>match(if f.isNone&&d.isSome then none else jZ f len m) with
   |some c=>match jZ g 0 c with
    |some l=>
     if a.spot.isSome then(if(P.info? e).isSome/\len=0/\b=0 then some (if d.isSome then tC else aGd) else none) else
     if(P.info? e).isSome/\c<=m then
      (if m=l then
       if d.isSome then some tC else
       match pV h a.block with
       |some true=>some tC
       |some false=>some (yS (a.add (l*P.cellsOf e)))
       |none=>none
      else some (.slice (some (a.add (l*P.cellsOf e))) (c - l) (m - l)))
     else none
    |none=>none
   |none=>none
  |none=>none
 |_,_=>none
def lI (P:Program) (eq:TypeId->Value->Value->Option Bool) (xs ys:List Value):List Field->Option Bool
 |[]=>some true
 |f::a=>
  if f.name="_" then lI P eq xs ys a else
  match apart P f.type xs f.offset,apart P f.type ys f.offset with
  |some x,some y=>match eq f.type x y with
   |some true=>lI P eq xs ys a
   |some false=>some false
   |none=>none
  |_,_=>none
def qS (P:Program) (eq:TypeId->Value->Value->Option Bool) (e:TypeId) (xs ys:List Value):List Nat->Option Bool
 |[]=>some true
 |i::is=>
  match apart P e xs (i*P.cellsOf e),apart P e ys (i*P.cellsOf e) with
  |some x,some y=>match eq e x y with
   |some true=>qS P eq e xs ys is
   |some false=>some false
   |none=>none
  |_,_=>none
def yR (P:Program):Nat->TypeId->Value->Value->Option Bool
 |0,_,_,_=>none
 |d+1,t,x,y=>
  match P.underlying t,x,y with
  |some .bool,.bool a,.bool b=>some (a==b)
  |some (.int _),.int k a,.int i b=>if k=i then some (a==b) else none
  |some .string,.string a,.string b=>some (a==b)
  |some (.pointer _),.pointer none,.pointer b=>some b.isNone
  |some (.pointer _),.pointer (some _),.pointer none=>some false
  |some (.interface _),.nilIface,.nilIface=>some true
  |some (.interface _),.nilIface,.iface _ _=>some false
  |some (.interface _),.iface _ _,.nilIface=>some false
  |some (.struct g),.agg c,.agg f=>if P.stoodInHeld t then none else lI P (yR P d) c.toList f.toList g.toList
  |some (.array n e),.agg c,.agg f=>if(P.info? e).isSome then qS P (yR P d) e c.toList f.toList (List.range n) else none
  |some (.slice _),.slice none _ _,.slice b _ _=>some b.isNone
  |some (.slice _),.slice (some _) _ _,.slice none _ _=>some false
  |some (.map _ _),.map none,.map b=>some b.isNone
  |some (.map _ _),.map (some _),.map none=>some false
  |some (.func _ _ _),.nilFunc,.nilFunc=>some true
  |some (.func _ _ _),.nilFunc,.func _ _ _=>some false
  |some (.func _ _ _),.func _ _ _,.nilFunc=>some false
  |_,_,_=>none
def isConst:Operand->Bool
 |.const _=>true
 |_=>false
def Hc (P:Program) (t:TypeId) (x y:Operand) (a b:Value):Bool:=
 match a,b with
 |.nilIface,.nilIface=>isConst x||isConst y
 |.agg _,.agg _=> !P.eqGuardType P.depth t
 |_,_=>true
def aJ0 (op:BinOp) (x y:Int):Option Bool:=
 match op with
 |.eql=>some (x==y)
 |.neq=>some (x !=y)
 |.lss=>some (decide (x<y))
 |.leq=>some (decide (x<=y))
 |.gtr=>some (decide (x>y))
 |.geq=>some (decide (x>=y))
 |_=>none
def Jh (op:BinOp) (k:IntKind) (x y:Int):Option Value:=
 if y<0 then none else
 match op with
 |.shl=>some (.int k (k.wrap (x*2^(min y.toNat k.bits))))
 |.shr=>some (.int k (x.fdiv (2^(min y.toNat k.bits))))
 |_=>none
def Eh (op:BinOp) (k:IntKind) (x y:Int):Option Value:=
 match op with
 |.add=>some (.int k (k.wrap (x+y)))
 |.sub=>some (.int k (k.wrap (x - y)))
 |.mul=>some (.int k (k.wrap (x*y)))
 |.quo=>if y=0 then none else some (.int k (k.wrap (x.tdiv y)))
 |.rem=>if y=0 then none else some (.int k (x.tmod y))
 |.eql|.neq|.lss|.leq|.gtr|.geq=>(aJ0 op x y).map .bool
 |.shl|.shr=>Jh op k x y
 |.and=>some (.int k (k.wrap (BitVec.ofInt k.bits x&&&BitVec.ofInt k.bits y).toNat))
 |.or=>some (.int k (k.wrap (BitVec.ofInt k.bits x|||BitVec.ofInt k.bits y).toNat))
 |.xor=>some (.int k (k.wrap (BitVec.ofInt k.bits x^^^BitVec.ofInt k.bits y).toNat))
 |.andNot=>some (.int k (k.wrap (BitVec.ofInt k.bits x&&&~~~BitVec.ofInt k.bits y).toNat))
def Ns (op:BinOp) (x y:ByteArray):Option Value:=
 match op with
 |.add=>if x.size+y.size<=2^62 then some (.string (x++y)) else none
 |.eql=>some (.bool (x.toList==y.toList))
 |.neq=>some (.bool !(x.toList==y.toList))
 |.lss=>some (.bool (Op.bytesLess x.toList y.toList))
 |_=>none
def P7 (P:Program) (op:BinOp) (t:TypeId) (x y:Operand) (a b:Value):Option Value:=
 match a,b with
 |.int k m,.int c n=>if k=c then Eh op k m n else Jh op k m n
 |.string m,.string n=>Ns op m n
 |a,b=>
  match op with
  |.eql=>if Hc P t x y a b then(yR P 10000 t a b).map .bool else none
  |.neq=>if Hc P t x y a b then(yR P 10000 t a b).map fun e=> .bool !e else none
  |_=>none
def dP (P:Program) (b:Operand->Value):Op->Option (mR×(Nat->Value))
 |.alloc e=>(zeroOf P e).map fun z=>(.cells z e (0,0) true,fun i=> .pointer (some ⟨i,0,none⟩))
 |.box e x=>(iE (b x)).map fun l=>(.cells l e (0,0) true,fun i=> .pointer (some ⟨i,0,none⟩))
 |.buildSlice t len a=>
  match P.underlying t with
  |some (.slice e)=>
   match zeroOf P e with
   |some z=>
    if len*P.cellsOf e<=2^24 then
     (E6 (fun i=>some (i*P.cellsOf e,P.cellsOf e)) (dY z len) (a.toList.map fun p=>(p.1,b p.2))).map fun l=>
      (.cells l e (0,0) true,fun i=> .slice (some ⟨i,0,none⟩) len len)
    else none
   |none=>none
  |_=>none
 |.makeSlice t l c=>match P.underlying t,b l,b c with
  |some (.slice e),.int _ l,.int _ c=>
   match zeroOf P e with
   |some z=>
    if 0<=l/\l<=c/\c<=2^40/\P.bytesOf e*c<=2^47 then
     some (.cells (dY z c.toNat) e (0,0) true,fun i=> .slice (some ⟨i,0,none⟩) l.toNat c.toNat)
    else none
   |none=>none
  |_,_,_=>none
 |.makeMap t r=>match r with
  |none=>some (.map [] 0,fun i=> .map (some i))
  |some x=>match P.underlying t,b x with
   |some (.map _ _),.int _ _=>some (.map [] 0,fun i=> .map (some i))
   |_,_=>none
 |_=>none
def Gf (P:Program) (t:TypeId):Option TypeId:=
 match P.underlying t with
 |some (.map a elem)=>match P.underlying a with
  |some (.int _)=>some elem
  |_=>none
 |_=>none
def wM (k:IntKind) (n:Int):List (Value×Value×Nat)->Nat->Option (Option (Nat×Value))
 |[],_=>some none
 |(.int j m,v,_)::a,i=>if k=j then(if n=m then some (some (i,v)) else wM k n a (i+1)) else none
 |_::_,_=>none
def zeroV (P:Program) (t:TypeId):Option Value:=((P.info? t).bind (·.zero)).bind fun z=>if dR z then some z else none
def X0 (h:AH):Value->Option (List (Value×Value×Nat))
 |.map none=>some []
 |.map (some r)=>match h.get r with
  |some (.map a _)=>some a
  |_=>none
 |_=>none
def uD (P:Program) (h:AH) (t:TypeId) (x ix:Value) (ok:Bool):Option Value:=
 match Gf P t,X0 h x,ix with
 |some e,some a,.int k n=>match wM k n a 0 with
  |some (some (_,v))=>some (if ok then .tuple ⟨[v,.bool true]⟩ else v)
  |some none=>(zeroV P e).map fun z=>if ok then .tuple ⟨[z,.bool false]⟩ else z
  |none=>none
 |_,_,_=>none
def aB1 (k:IntKind) (n:Int) (v:Value) (es:List (Value×Value×Nat)) (a:Nat):Option mR:=
 match wM k n es 0 with
 |some (some (i,_))=>some (.map (es.modify i fun e=>(.int k n,v,e.2.2)) a)
 |some none=>some (.map (es++[(.int k n,v,a)]) (a+1))
 |none=>none
def Ba (P:Program) (h:AH) (t:TypeId) (m b v:Value):Option AH:=
 match Gf P t,m,b with
 |some _,.map (some r),.int k n=>if r<h.base then none else match h.get r with
  |some (.map c a)=>(aB1 k n v c a).map fun o=>h.set r (some o)
  |_=>none
 |_,_,_=>none
def D5 (P:Program) (h:AH) (t:TypeId) (m c:Value):Option AH:=
 match Gf P t,m,c with
 |some _,.map none,.int _ _=>some h
 |some _,.map (some r),.int k n=>if r<h.base then none else match h.get r with
  |some (.map b a)=>match wM k n b 0 with
   |some (some (i,_))=>some (h.set r (some (.map (b.eraseIdx i) a)))
   |some none=>some (h.set r (some (.map b a)))
   |none=>none
  |_=>none
 |_,_,_=>none
def byteOf:Value->Option UInt8
 |.int .u8 n=>some (UInt8.ofNat n.toNat)
 |_=>none
def zT:List Value->Option (List UInt8)
 |[]=>some []
 |v::l=>match byteOf v,zT l with
  |some b,some r=>some (b::r)
  |_,_=>none
def strOf (h:AH):Value->Option Value
 |.slice none _ _=>some (.string .empty)
 |.slice (some a) n _=>if n=0 then some (.string .empty) else((bZ h a n).bind zT).map fun l=> .string ⟨⟨l⟩⟩
 |_=>none
def bN (P:Program) (g:Operand->Value) (h:AH):Op->Option Value
 |.move x=>some (g x)
 |.assign x=>some (g x)
 |.pick c a b=>match g c with
  |.bool t=>some (if t then g a else g b)
  |_=>none
 |.build t l=>F9 P t (l.toList.map fun p=>(p.1,g p.2))
 |.load t a=>match g a with
  |.pointer (some a)=>tL P h t a
  |_=>none
 |.nilCheck x=>match g x with
  |.pointer (some a)=>some (.pointer (some a))
  |.func (.func f) a b=>some (.func (.func f) a b)
  |.func (.yield f) a b=>some (.func (.yield f) a b)
  |_=>none
 |.binOp op t x y _=>P7 P op t x y (g x) (g y)
 |.unOp op _ x=>match op,g x with
  |.neg,.int k n=>some (.int k (k.wrap (0 - n)))
  |.not,.bool b=>some (.bool !b)
  |_,_=>none
 |.convert s d x=>match P.underlying s,P.underlying d,g x with
  |some _,some (.int k),.int _ n=>some (.int k (k.wrap n))
  |some .string,some .string,.string z=>some (.string z)
  |some (.slice e),some .string,v=>(match P.underlying e with
   |some (.int .u8)=>strOf h v
   |_=>none)
  |_,_,_=>none
 |.makeInterface t x=>match P.underlying t with
  |some (.interface _)=>none
  |some _=>some (.iface t (g x))
  |none=>none
 |.makeFunc q first j=>match q with
  |.func f=>some (.func (.func f) (first.map g) (j.map g))
  |_=>none
 |.slice t x u r A=>tB P h t (g x) (u.map g) (r.map g) (A.map g)
 |.fieldAddr s x f=>match P.underlying s,g x with
  |some (.struct o),.pointer (some a)=>match o[f]? with
   |some fd=>if P.cellsOf fd.type=0 then none else some (.pointer (some (a.add fd.offset)))
   |none=>none
  |_,_=>none
 |.field t x f=>match P.underlying t,g x with
  |some (.struct o),.agg m=>match o[f]? with
   |some fd=>apart P fd.type m.toList fd.offset
   |none=>none
  |_,_=>none
 |.indexAddr t x i=>match P.underlying t,g x,g i with
  |some (.array n e),.pointer (some a),.int _ i=>if 0<=i/\i<n/\(P.info? e).isSome then some (.pointer (some (a.add (i.toNat*P.cellsOf e)))) else none
  |some (.slice e),.slice (some a) n _,.int _ i=>if 0<=i/\i<n/\(P.info? e).isSome/\a.spot=none then some (.pointer (some (a.add (i.toNat*P.cellsOf e)))) else none
  |_,_,_=>none
 |.index t x i=>match P.underlying t,g x,g i with
  |some (.array n e),.agg m,.int _ i=>if 0<=i/\i<n/\(P.info? e).isSome then apart P e m.toList (i.toNat*P.cellsOf e) else none
  |some .string,.string s,.int _ i=>if 0<=i then(s[i.toNat]?).map fun b=> .int .u8 b.toNat else none
  |_,_,_=>none
 |.extract t i=>match g t with
  |.tuple C=>C.toList[i]?
  |_=>none
 |.lookup t x ix ok=>uD P h t (g x) (g ix) ok
 |_=>none
inductive Kind where
 |yK|alloc|store|call|other
 deriving DecidableEq
def kindOf:Op->Kind
 |.move _|.assign _|.pick ..|.build ..|.load ..|.nilCheck _|.binOp ..|.unOp ..|.convert ..|.makeInterface ..|.makeFunc ..|.slice ..|.fieldAddr ..
 |.field ..|.indexAddr ..|.index ..|.extract ..|.lookup ..=> .yK
 |.alloc _|.box ..|.buildSlice ..|.makeSlice ..|.makeMap ..=> .alloc
 |.store ..|.mapUpdate ..=> .store
 |.call _=> .call
 |_=> .other
def fA (h:AH) (size n:Nat):Value->Option (List Value)
 |.slice none _ _=>if n=0 then some [] else none
 |.slice (some a) l _=>if n=0 then some [] else if n<=l then bZ h a (n*size) else none
 |.string s=>if n<=s.size then some ((s.extract 0 n).data.toList.map fun b=> .int .u8 b.toNat) else none
 |_=>none
def tP:Value->Option Nat
 |.slice _ n _=>some n
 |.string s=>some s.size
 |_=>none
def Ih (P:Program) (a:Array TypeId):Bool:=
 match(a[1]?).bind P.underlying with
 |some (.slice _)|some .string=>true
 |_=>false
def Io (P:Program) (h:AH) (d:Array TypeId) (s x:Value):Option (Value×AH):=
 match(d[0]?).bind P.underlying,s,tP x with
 |some (.slice e),.slice g b f,some n=>
  if !Ih P d then none else
  match zeroOf P e,fA h (P.cellsOf e) n x with
  |some _,some new=>
   if !new.all dV||new.length !=n*P.cellsOf e then none else
   if b+n<=f then
    match g with
    |none=>if n=0 then some (s,h) else none
    |some a=>if n=0 then some (s,h) else if a.spot.isSome then none else
     (dI h (a.add (b*P.cellsOf e)) new).map fun l=>(.slice g (b+n) f,l)
   else if(b+n)*(P.bytesOf e+1)<=2^46 then
    match g with
    |none=>if b=0 then some (.slice (some ⟨h.next,0,none⟩) n n,h.alloc (.cells new e (0,0) false)) else none
    |some a=>
     if a.spot=some 1 then(if b=0 then some (.slice (some ⟨h.next,0,none⟩) n n,h.alloc (.cells new e (0,0) false)) else none) else
     if a.spot=some 2 then
      (match h.get a.block with
      |some (.cells c j k _)=>
       if j=e/\h.base<=a.block/\k=(0,0)/\a.off<=c.length/\b=0/\f=0 then
        some (.slice (some ⟨h.next,0,none⟩) n n,(h.set a.block none).alloc (.cells new e (0,0) false))
       else none
      |_=>none) else
     match bZ h a (b*P.cellsOf e),h.get a.block with
     |some i,some (.cells c j k x)=>
      if !i.all dV then none else
      if x then some (.slice (some ⟨h.next,0,none⟩) (b+n) (b+n),h.alloc (.cells (i++new) e (0,0) false))
      else if j=e/\h.base<=a.block/\k=(0,0)/\a.off+f*P.cellsOf e<=c.length then
       some (.slice (some ⟨h.next,0,none⟩) (b+n) (b+n),(h.set a.block none).alloc (.cells (i++new) e (0,0) false))
      else none
     |_,_=>none
   else none
  |_,_=>none
 |_,_,_=>none
def dW (P:Program) (h:AH) (b:Builtin) (f:Array TypeId) (args:List Value):Option (Value×AH):=
 match b,args with
 |.len,[x]=>match(f[0]?).bind P.underlying,x with
  |some .string,.string s=>some (.int .i64 s.size,h)
  |some (.array n _),_=>some (.int .i64 n,h)
  |some (.pointer e),_=>match P.underlying e with
   |some (.array n _)=>some (.int .i64 n,h)
   |_=>none
  |some (.slice _),.slice _ n _=>some (.int .i64 n,h)
  |some (.map _ _),x=>(X0 h x).map fun l=>(.int .i64 l.length,h)
  |_,_=>none
 |.append,[s,x]=>Io P h f s x
 |.copy,[d,x]=>match(f[0]?).bind P.underlying,d,tP x with
  |some (.slice e),.slice i g _,some m=>
   if(P.info? e).isNone then none else
   match fA h (P.cellsOf e) (Nat.min m g) x with
   |some new=>match i with
    |none=>some (.int .i64 (Nat.min m g:Nat),h)
    |some a=>if Nat.min m g=0 then some (.int .i64 0,h) else(dI h a new).map fun j=>(.int .i64 (Nat.min m g:Nat),j)
   |none=>none
  |_,_,_=>none
 |.clear,[x]=>match(f[0]?).bind P.underlying,x with
  |some _,.slice none _ _=>some (.tuple #[],h)
  |some (.slice e),.slice (some a) n _=>
   if n=0 then some (.tuple #[],h) else
   match zeroOf P e with
   |some z=>(dI h a (dY z n)).map fun j=>(.tuple #[],j)
   |none=>none
  |_,_=>none
 |.delete,[m,k]=>match f[0]? with
  |some t=>(D5 P h t m k).map fun j=>(.tuple #[],j)
  |none=>none
 |.min,[.int k x,.int _ y]=>some (.int k (if y<x then y else x),h)
 |.max,[.int k x,.int _ y]=>some (.int k (if y>x then y else x),h)
 |.cap,[x]=>match(f[0]?).bind P.underlying,x with
  |some (.slice _),.slice none _ c=>some (.int .i64 c,h)
  |_,_=>none
 |_,_=>none
end
end Go.Ab
end
section
namespace Go.Ab
open Go.RowKit
def Ext (ρ ρ':hU):Prop:=∀i x,ρ i=some x->ρ' i=some x
theorem Ext.refl (ρ:hU):Ext ρ ρ:=fun _ _ h=>h
theorem Ext.trans {a b c:hU} (h:Ext a b) (k:Ext b c):Ext a c:=fun i x d=>k i x (h i x d)
theorem Dv.mono {ρ ρ':hU} (h:Ext ρ ρ') {f g:Fn} (k:Dv ρ f g):Dv ρ' f g:=by
 cases f<;>simp only[Dv] at k ⊢<;>try exact k
 obtain⟨b,s,a,c⟩:=k;exact⟨b,s,h _ _ a,c⟩
mutual
theorem aE.mono {ρ ρ':hU} (h:Ext ρ ρ'):∀(v v':Value),aE ρ v v'->aE ρ' v v'
 |.bool _,_,k=>by simp only[aE] at k ⊢;exact k
 |.int _ _,_,k=>by simp only[aE] at k ⊢;exact k
 |.float _ _,_,k=>by simp only[aE] at k ⊢;exact k
 |.complex _ _ _,_,k=>by simp only[aE] at k ⊢;exact k
 |.string _,_,k=>by simp only[aE] at k ⊢;exact k
 |.pointer none,_,k=>by simp only[aE] at k ⊢;exact k
 |.pointer (some _),_,k=>by simp only[aE] at k ⊢;obtain⟨b,s,d,c⟩:=k;exact⟨b,s,h _ _ d,c⟩
 |.slice none _ _,_,k=>by simp only[aE] at k ⊢;exact k
 |.slice (some ⟨_,_,some _⟩) _ _,_,k=>by
  simp only[aE] at k ⊢;obtain⟨j,l,o,g,m,q,r⟩:=k;exact⟨j,l,o,g,m,fun x=>let⟨b,s,d,c⟩:=q x;⟨b,s,h _ _ d,c⟩,r⟩
 |.slice (some ⟨_,_,none⟩) _ _,_,k=>by simp only[aE] at k ⊢;obtain⟨b,s,g,d,c⟩:=k;exact⟨b,s,g,h _ _ d,c⟩
 |.map none,_,k=>by simp only[aE] at k ⊢;exact k
 |.map (some _),_,k=>by simp only[aE] at k ⊢;obtain⟨b,s,d,c⟩:=k;exact⟨b,s,h _ _ d,c⟩
 |.chan none,_,_=>by simp only[aE]
 |.chan (some _),_,k=>by simp only[aE] at k
 |.func _ p e,_,k=>by
  simp only[aE] at k ⊢;obtain⟨i,f,a,j,l,m,c⟩:=k;exact⟨i,f,a,j.mono h,kJ.mono h p f l,kJ.mono h e a m,c⟩
 |.nilFunc,_,k=>by simp only[aE] at k ⊢;exact k
 |.iface _ v,_,k=>by simp only[aE] at k ⊢;obtain⟨u,t,c⟩:=k;exact⟨u,aE.mono h v u t,c⟩
 |.nilIface,_,k=>by simp only[aE] at k ⊢;exact k
 |.agg e,_,k=>by simp only[aE] at k ⊢;obtain⟨a,n,c⟩:=k;exact⟨a,kJ.mono h e a n,c⟩
 |.tuple e,_,k=>by simp only[aE] at k ⊢;obtain⟨a,n,c⟩:=k;exact⟨a,kJ.mono h e a n,c⟩
theorem kJ.mono {ρ ρ':hU} (h:Ext ρ ρ'):∀(v v':Array Value),kJ ρ v v'->kJ ρ' v v'
 |⟨l⟩,a,k=>by simp only[kJ] at k ⊢;exact aR.mono h l a.toList k
theorem aR.mono {ρ ρ':hU} (h:Ext ρ ρ'):∀(l a:List Value),aR ρ l a->aR ρ' l a
 |[],_,k=>by simp only[aR] at k ⊢;exact k
 |v::l,_,k=>by
  simp only[aR] at k ⊢;obtain⟨c,b,d,e,f⟩:=k;exact⟨c,b,aE.mono h v c d,aR.mono h l b e,f⟩
end
mutual
theorem fZ {ρ:hU}:∀(v:Value),dR v=true->aE ρ v v
 |.bool _,_=>by simp only[aE]
 |.int _ _,_=>by simp only[aE]
 |.float _ _,h=>by simp[dR] at h
 |.complex _ _ _,h=>by simp[dR] at h
 |.string _,_=>by simp only[aE]
 |.pointer none,_=>by simp only[aE]
 |.pointer (some _),h=>by simp[dR] at h
 |.slice none _ _,_=>by simp only[aE]
 |.slice (some _) _ _,h=>by simp[dR] at h
 |.map none,_=>by simp only[aE]
 |.map (some _),h=>by simp[dR] at h
 |.chan _,h=>by simp[dR] at h
 |.func _ _ _,h=>by simp[dR] at h
 |.nilFunc,_=>by simp only[aE]
 |.iface _ v,h=>by simp only[aE];simp only[dR] at h;exact⟨v,fZ v h,rfl⟩
 |.nilIface,_=>by simp only[aE]
 |.agg a,h=>by simp only[aE];simp only[dR] at h;exact⟨a,Jw a h,rfl⟩
 |.tuple a,h=>by simp only[aE];simp only[dR] at h;exact⟨a,Jw a h,rfl⟩
theorem Jw {ρ:hU}:∀(v:Array Value),uX v=true->kJ ρ v v
 |⟨l⟩,h=>by simp only[uX] at h;simp only[kJ];exact mX l h
theorem mX {ρ:hU}:∀(l:List Value),oK l=true->aR ρ l l
 |[],_=>by simp only[aR]
 |v::l,h=>by
  simp only[oK,Bool.and_eq_true] at h;simp only[aR];exact⟨v,l,fZ v h.1,mX l h.2,rfl⟩
end
theorem iL {ρ:hU} {a b:Array Value}:kJ ρ a b↔aR ρ a.toList b.toList:=by cases a;simp only[kJ]
section lists
variable {ρ:hU}
theorem aR.nil:aR ρ [] []:=by simp only[aR]
theorem aR.cons {v v':Value} {l a:List Value} (h:aE ρ v v') (k:aR ρ l a):aR ρ (v::l) (v'::a):=by
 simp only[aR];grind
theorem aR.Tw {v v':Value} {l a:List Value}:aR ρ (v::l) (v'::a)↔aE ρ v v'/\aR ρ l a:=by
 constructor;intro h;simp only[aR] at h;grind;exact fun h=>aR.cons h.1 h.2
theorem aR.length:∀{l a:List Value},aR ρ l a->a.length=l.length
 |[],a,h=>by simp only[aR] at h;simp[h]
 |v::l,a,h=>by
  simp only[aR] at h;obtain⟨d,c,_,b,rfl⟩:=h;simp[aR.length b]
theorem aR.get:∀{l a:List Value} {i:Nat} {v:Value},aR ρ l a->l[i]?=some v->∃b,a[i]?=some b/\aE ρ v b
 |[],a,i,v,h,k=>by simp at k
 |u::l,a,0,v,h,k=>by
  simp only[aR] at h;grind
 |u::l,a,i+1,v,h,k=>by
  simp only[aR] at h;obtain⟨b,d,_,c,rfl⟩:=h;simp at k;simpa using aR.get c k
theorem aR.get_none {l a:List Value} {i:Nat} (h:aR ρ l a) (k:l[i]?=none):a[i]?=none:=by
 rw[List.getElem?_eq_none_iff] at k ⊢;rw[h.length];exact k
theorem aR.getD {l a:List Value} (i:Nat) (h:aR ρ l a):aE ρ (l.getD i undef) (a.getD i undef):=by
 cases k:l[i]? with
 |none=>
  have b:=h.get_none k;rw[List.getD_eq_getElem?_getD,List.getD_eq_getElem?_getD,k,b];exact fZ undef (by simp[undef,dR,uX,oK])
 |some v=>
  obtain⟨e,d,c⟩:=h.get k;grind
theorem aR.append:∀{l a m b:List Value},aR ρ l a->aR ρ m b->aR ρ (l++m) (a++b)
 |[],a,m,b,h,k=>by simp only[aR] at h;subst h;exact k
 |v::l,a,m,b,h,k=>by
  simp only[aR] at h;obtain⟨f,e,c,d,rfl⟩:=h;exact aR.cons c (aR.append d k)
theorem aR.take:∀{l a:List Value} (n:Nat),aR ρ l a->aR ρ (l.take n) (a.take n)
 |_,_,0,_=>by simp[aR.nil]
 |[],a,n+1,h=>by simp only[aR] at h;subst h;exact aR.nil
 |v::l,a,n+1,h=>by
  simp only[aR] at h;obtain⟨e,d,b,c,rfl⟩:=h;exact aR.cons b (aR.take n c)
theorem aR.drop:∀{l a:List Value} (n:Nat),aR ρ l a->aR ρ (l.drop n) (a.drop n)
 |_,_,0,h=>by simpa using h
 |[],a,n+1,h=>by simp only[aR] at h;subst h;exact aR.nil
 |v::l,a,n+1,h=>by
  simp only[aR] at h;obtain⟨e,d,c,b,rfl⟩:=h;exact aR.drop n b
theorem aR.set:∀{l a:List Value} (i:Nat) {v v':Value},aR ρ l a->aE ρ v v'->aR ρ (l.set i v) (a.set i v')
 |[],a,i,v,v',h,k=>by simp only[aR] at h;subst h;exact aR.nil
 |u::l,a,0,v,v',h,k=>by
  simp only[aR] at h;obtain⟨e,d,c,b,rfl⟩:=h;exact aR.cons k b
 |u::l,a,i+1,v,v',h,k=>by
  simp only[aR] at h;obtain⟨e,d,c,b,rfl⟩:=h;exact aR.cons c (aR.set i b k)
theorem aR.bV {l a m b:List Value} (i:Nat) (h:aR ρ l a) (k:aR ρ m b):aR ρ (bV l i m) (bV a i b):=by
 unfold Ab.bV;rw[k.length];exact((h.take i).append k).append (h.drop _)
theorem aR.replicate {v v':Value} (n:Nat) (h:aE ρ v v'):aR ρ (List.replicate n v) (List.replicate n v'):=by
 induction n with
 |zero=>exact aR.nil
 |succ n a=>exact aR.cons h a
theorem aR.Cz {α:Type} {f g:α->Value} (h:∀x,aE ρ (f x) (g x)):∀l:List α,aR ρ (l.map f) (l.map g)
 |[]=>aR.nil
 |x::l=>aR.cons (h x) (aR.Cz h l)
end lists
section Cn
variable {ρ:hU}
theorem aE.cells {v v':Value} (h:aE ρ v v') (k:wO v=false):aR ρ v.cells.toList v'.cells.toList:=by
 cases v with
 |agg n=>simp only[aE] at h;obtain⟨g,j,rfl⟩:=h;exact iL.1 j
 |chan r=>simp[wO] at k
 |pointer a=>
  have d:=h;cases a with
  |none=>simp only[aE] at h;subst h;exact aR.cons d aR.nil
  |some a=>simp only[aE] at h;obtain⟨b,s,e,rfl⟩:=h;exact aR.cons d aR.nil
 |slice a l c=>
  have d:=h;cases a with
  |none=>simp only[aE] at h;subst h;exact aR.cons d aR.nil
  |some a=>
   obtain⟨i,o,sp⟩:=a;cases sp with
   |none=>simp only[aE] at h;obtain⟨b,s,f,e,_,_,rfl⟩:=h;exact aR.cons d aR.nil
   |some _=>simp only[aE] at h;obtain⟨_,_,m,f,_,_,rfl⟩:=h;exact aR.cons d aR.nil
 |map r=>
  have d:=h;cases r with
  |none=>simp only[aE] at h;subst h;exact aR.cons d aR.nil
  |some a=>simp only[aE] at h;obtain⟨b,s,e,rfl⟩:=h;exact aR.cons d aR.nil
 |func p a b=>have d:=h;simp only[aE] at h;obtain⟨_,_,_,_,_,_,rfl⟩:=h;exact aR.cons d aR.nil
 |iface t v=>have d:=h;simp only[aE] at h;obtain⟨_,_,rfl⟩:=h;exact aR.cons d aR.nil
 |tuple t=>have d:=h;simp only[aE] at h;obtain⟨_,_,rfl⟩:=h;exact aR.cons d aR.nil
 |_=>have d:=h;simp only[aE] at h;subst h;exact aR.cons d aR.nil
theorem aE.Qj {v v':Value} (h:aE ρ v v') (hc:dV v=true):v'.oneCell'=true:=by
 cases v with
 |agg g=>simp[dV] at hc
 |chan r=>simp[dV] at hc
 |tuple t=>simp[dV] at hc
 |pointer a=>cases a with
  |none=>simp only[aE] at h;subst h;rfl
  |some a=>simp only[aE] at h;obtain⟨b,s,d,rfl⟩:=h;rfl
 |slice a l c=>cases a with
  |none=>simp only[aE] at h;subst h;rfl
  |some a=>
   obtain⟨i,o,sp⟩:=a
   cases sp with
   |none=>simp only[aE] at h;obtain⟨b,s,e,d,_,_,rfl⟩:=h;rfl
   |some _=>simp only[aE] at h;obtain⟨_,_,f,e,_,_,rfl⟩:=h;rfl
 |map r=>cases r with
  |none=>simp only[aE] at h;subst h;rfl
  |some a=>simp only[aE] at h;obtain⟨b,s,d,rfl⟩:=h;rfl
 |func j a b=>simp only[aE] at h;obtain⟨_,_,_,_,_,_,rfl⟩:=h;rfl
 |iface t v=>simp only[aE] at h;obtain⟨_,_,rfl⟩:=h;rfl
 |_=>simp only[aE] at h;subst h;rfl
end Cn
def jW (ρ:hU):List (Value×Value×Nat)->List MapEntry->Prop
 |[],a=>a=[]
 |(k,v,n)::l,a=>∃b c t,aE ρ k b/\aE ρ v c/\jW ρ l t/\a={key:=b,val:=c,born:=n}::t
theorem jW.mono {ρ ρ':hU} (h:Ext ρ ρ'):∀(l:List (Value×Value×Nat)) (es:List MapEntry),jW ρ l es->jW ρ' l es
 |[],_,k=>k
 |(_,_,_)::l,_,⟨e,f,t,a,b,c,d⟩=>⟨e,f,t,aE.mono h _ _ a,aE.mono h _ _ b,jW.mono h l t c,d⟩
def tX (P:Program) (ρ:hU) (s:Nat×Nat):mR->Obj->Prop
 |.cells c e n x,o=>∃i:Array Value,o= .cells i e n/\aR ρ c ((i.toList.drop s.2).take c.length)/\s.2+c.length+s.1*P.cellsOf e<=i.size/\(x=true->s.1=0/\s.2=0/\i.size=c.length)
 |.loop st Ci fn tmps params assign body d,o=>∃a k p,aR ρ tmps a/\ρ d=some (k,p)/\
   o= .loop {state:=st,pending:=Ci,fn:=fn,tmps:=⟨a⟩,params:=params,assign:=assign,body:=body,defers:=k}
 |.marks here,o=>o= .deferred (if here then some [] else none)
 |.map l f,o=>∃g,jW ρ l g/\o= .map ⟨g⟩ f
 |.mapIter m since seen last,o=>∃j,(match m with|none=>j=none|some r=>∃b s,ρ r=some (b,s)/\j=some b)/\o= .mapIter j since ⟨seen⟩ last
 |.dy s pos,o=>o= .stringIter s pos
theorem tX.mono {P:Program} {ρ ρ':hU} (h:Ext ρ ρ') {s:Nat×Nat} {b:mR} {o:Obj} (k:tX P ρ s b o):tX P ρ' s b o:=by
 cases b with
 |cells c e D x=>obtain⟨n,a,f,i⟩:=k;exact⟨n,a,aR.mono h _ _ f,i⟩
 |loop st Ci C l params assign j d=>obtain⟨z,q,y,a,f,i⟩:=k;exact⟨z,q,y,aR.mono h _ _ a,h _ _ f,i⟩
 |marks _=>exact k
 |map A c=>obtain⟨g,a,f⟩:=k;exact⟨g,jW.mono h _ _ a,f⟩
 |mapIter m _ _ _=>
  obtain⟨v,a,f⟩:=k;refine⟨v,?_,f⟩;cases m with
  |none=>exact a
  |some r=>obtain⟨b,s,t,u⟩:=a;exact⟨b,s,h _ _ t,u⟩
 |dy s p=>exact k
structure Inv (P:Program) (B:Nat) (ρ:hU) (h:AH) (w:World):Prop where
 mO:∀i o,h.get i=some o->∀b s,ρ i=some (b,s)->∃o',w.heap[b]?=some o'/\tX P ρ s o o'
 inj:∀i j b si sj,h.base<=i->h.base<=j->(h.get i).isSome->(h.get j).isSome->ρ i=some (b,si)->ρ j=some (b,sj)->i=j
 low:∀i b s,h.base<=i->(h.get i).isSome->ρ i=some (b,s)->B<=b
 old:∀i b s,i<h.base->ρ i=some (b,s)->b<B
 fresh:∀i,h.next<=i->ρ i=none
 gF:∀i,h.next<=i->h.get i=none
 nT:∀g,g<P.globals.size->ρ g=some (g,(0,0))
 size:B<=w.heap.size
 bn:h.base<=h.next
structure jR (P:Program) (B:Nat) (ρ:hU) (h:AH) (w:World) (ρ':hU) (h':AH) (w':World):Prop where
 ext:Ext ρ ρ'
 inv:Inv P B ρ' h' w'
 un:∀i,i<h.next->ρ i=none->ρ' i=none
 lQ:∀i,i<h.next->ρ i=none->h'.get i=h.get i
 stay:∀i,i<h.next->h.get i=none->h'.get i=none
 frame:∀b,b<w.heap.size->(∀i s,h.base<=i->(h.get i).isSome->ρ i≠some (b,s))->w'.heap[b]?=w.heap[b]?
 range:∀i b s,h.base<=i->(h'.get i).isSome->ρ' i=some (b,s)->b<w.heap.size->∃j s',h.base<=j/\(h.get j).isSome/\ρ j=some (b,s')
 base:h'.base=h.base
 uZ:∀i,i<h.base->h'.get i=h.get i
 next:h.next<=h'.next
 size:w.heap.size<=w'.heap.size
 os:w'.os=w.os
 out:w'.output=w.output
 tape:w'.tape=w.tape
theorem jR.refl {P:Program} {B:Nat} {ρ:hU} {h:AH} {w:World} (d:Inv P B ρ h w):jR P B ρ h w ρ h w where
 ext:=Ext.refl ρ
 inv:=d
 un:=fun _ _ h=>h
 lQ:=fun _ _ _=>rfl
 stay:=fun _ _ e=>e
 frame:=fun _ _ _=>rfl
 range:=fun i _ s a b c _=>⟨i,s,a,b,c⟩
 base:=rfl
 uZ:=fun _ _=>rfl
 next:=Nat.le_refl _
 size:=Nat.le_refl _
 os:=rfl
 out:=rfl
 tape:=rfl
theorem jR.trans {P:Program} {B:Nat} {ρ ρ1 ρ2:hU} {h o p:AH} {w r t:World} (a:jR P B ρ h w ρ1 o r) (b:jR P B ρ1 o r ρ2 p t):jR P B ρ h w ρ2 p t where
 ext:=a.ext.trans b.ext
 inv:=b.inv
 un:=fun i c d=>b.un i (Nat.lt_of_lt_of_le c a.next) (a.un i c d)
 lQ:=fun i c d=>(b.lQ i (Nat.lt_of_lt_of_le c a.next) (a.un i c d)).trans (a.lQ i c d)
 stay:=fun i c d=>b.stay i (Nat.lt_of_lt_of_le c a.next) (a.stay i c d)
 frame:=fun x f d=>by
  refine(b.frame x (Nat.lt_of_lt_of_le f a.size) ?_).trans (a.frame x f d);intro i s l n m;rw[a.base] at l;obtain⟨j,q,e,g,k⟩:=a.range i x s l n m f;grind
 range:=fun i x s l n m f=>by
  obtain⟨j,q,e,g,k⟩:=b.range i x s (by rw[a.base];exact l) n m (Nat.lt_of_lt_of_le f a.size);rw[a.base] at e;exact a.range j x q e g k f
 base:=b.base.trans a.base
 uZ:=fun i c=>(b.uZ i (by rw[a.base];exact c)).trans (a.uZ i c)
 next:=Nat.le_trans a.next b.next
 size:=Nat.le_trans a.size b.size
 os:=b.os.trans a.os
 out:=b.out.trans a.out
 tape:=b.tape.trans a.tape
theorem jR.below {P:Program} {B:Nat} {ρ ρ':hU} {h h':AH} {w w':World} (a:Inv P B ρ h w) (e:jR P B ρ h w ρ' h' w'):Below B w w':=
 ⟨e.os,e.tape,e.out,e.size,fun k b=>e.frame k (Nat.lt_of_lt_of_le b a.size) fun i s c f d=>absurd (a.low i k s c f d) (Nat.not_le.2 b)⟩
end Go.Ab
end
namespace Go.Ab
open Go.RowKit
section
variable {P:Program} {B:Nat} {ρ:hU} {h:AH} {w:World}
def oQ (ρ:hU) (i:Nat) (x:Nat×(Nat×Nat)):hU:=fun j=>if j=i then some x else ρ j
theorem bL {i:Nat} {x:Nat×(Nat×Nat)}:oQ ρ i x i=some x:=by simp[oQ]
theorem bQ {i j:Nat} {x:Nat×(Nat×Nat)} (h:j≠i):oQ ρ i x j=ρ j:=by simp[oQ,h]
theorem Ext.oQ {i:Nat} {x:Nat×(Nat×Nat)} (h:ρ i=none):Ext ρ (oQ ρ i x):=by
 intro j y a;by_cases e:j=i;grind;rw[bQ e];exact a
theorem A3 (c:Inv P B ρ h w) {o:mR} {o':Obj} {s:Nat×Nat} {w':World} (hb:tX P (oQ ρ h.next (w.heap.size,s)) s o o')
  (m:w'.heap=w.heap.push o') (D:w'.os=w.os) (v:w'.output=w.output) (r:w'.tape=w.tape):
  jR P B ρ h w (oQ ρ h.next (w.heap.size,s)) (h.alloc o) w':=by
 have l:Ext ρ (oQ ρ h.next (w.heap.size,s)):=Ext.oQ (c.fresh _ (Nat.le_refl _))
 have a:∀j,(h.alloc o).get j=if j=h.next then some o else h.get j:=fun j=>AH.wW c.bn
 have L:∀i b H,ρ i=some (b,H)->i<h.next:=fun i b H n=>by
  rcases Nat.lt_or_ge i h.next with y|y
  exact y;rw[c.fresh i y] at n;cases n
 refine {ext:=l,inv:=?_,un:=?_,lQ:=?_,stay:=fun j Q t=>by grind,frame:=?_,range:=?_,base:=rfl,uZ:=?_,next:=by simp,size:=by rw[m];simp,os:=D,out:=v,tape:=r}
 .refine {mO:=?_,inj:=?_,low:=?_,old:=?_,fresh:=?_,gF:=?_,nT:=?_,size:=by rw[m];simp;exact Nat.le_succ_of_le c.size,bn:=Nat.le_succ_of_le c.bn}
  .intro i M q b s1 n;rw[a] at q;by_cases e:i=h.next
   .subst e;rw[aNa rfl] at q;cases q;rw[bL] at n;grind
   .rw[aN9 e] at q;rw[bQ e] at n;obtain⟨E,F,K⟩:=c.mO i M q b s1 n;refine⟨E,?_,K.mono l⟩;grind
  .intro i j b I J f z k u d x;rw[a] at k u;by_cases e:i=h.next
   .by_cases p:j=h.next
    .rw[e,p]
    .rw[aN9 p] at u;rw[bQ p] at x;obtain⟨O,C⟩:=Option.isSome_iff_exists.1 u;obtain⟨E,F,_⟩:=c.mO j O C b J x;subst e;rw[bL] at d;grind
   .rw[aN9 e] at k;rw[bQ e] at d;by_cases p:j=h.next
    .obtain⟨N,A⟩:=Option.isSome_iff_exists.1 k;obtain⟨E,F,_⟩:=c.mO i N A b I d;subst p;rw[bL] at x;grind
    .rw[aN9 p] at u;rw[bQ p] at x;exact c.inj i j b I J f z k u d x
  .intro i b s1 f k d;rw[a] at k;by_cases e:i=h.next
   .subst e;rw[bL] at d;cases d;exact c.size
   .rw[aN9 e] at k;rw[bQ e] at d;exact c.low i b s1 f k d
  .intro i b s1 f d;have e:i≠h.next:=fun e=>by have:=c.bn;simp at f;omega
   rw[bQ e] at d
   exact c.old i b s1 f d
  .intro i t;simp at t;rw[bQ (by omega)];exact c.fresh i (by omega)
  .intro i t;simp at t;rw[a,aab];exact c.gF i (by omega)
  .intro g q;have:=c.nT g q;exact l _ _ this
 .intro i t n;rw[bQ (by omega)];exact n
 .grind
 .grind
 .intro i b s1 f k d G;rw[a] at k;by_cases e:i=h.next
  .subst e;rw[bL] at d;cases d;omega
  .rw[aN9 e] at k;rw[bQ e] at d;grind
 .intro i t;rw[a,aN9 (by have:=c.bn;omega)]
theorem uA (d:Inv P B ρ h w) {i b:Nat} {s:Nat×Nat} {F o:mR} {o':Obj} {w':World} (p:h.base<=i) (t:h.get i=some F) (C:ρ i=some (b,s)) (hb:tX P ρ s o o')
  (f:w'.heap=w.heap.setIfInBounds b o') (A:w'.os=w.os) (u:w'.output=w.output) (q:w'.tape=w.tape):
  jR P B ρ h w ρ (h.set i (some o)) w':=by
 have n:∀j,(h.set i (some o)).get j=if j=i then some o else h.get j:=fun j=>AH.gM p
 have c:∀j,((h.set i (some o)).get j).isSome->(h.get j).isSome:=fun j a=>by
  grind
 obtain⟨R,z,_⟩:=d.mO i F t b s C
 have I:b<w.heap.size:=(Array.getElem?_eq_some_iff.1 z).1
 have J:i<h.next:=by
  rcases Nat.lt_or_ge i h.next with v|v
  exact v;rw[d.gF i v] at t;cases t
 refine {ext:=Ext.refl _,inv:=?_,un:=fun _ _ h=>h,lQ:=?_,stay:=fun j a Q=>by grind,frame:=?_,range:=?_,base:=AH.Lj,uZ:=?_,next:=by simp,size:=by rw[f];simp,os:=A,out:=u,tape:=q}
 .refine {mO:=?_,inj:=?_,low:=?_,old:=?_,fresh:=?_,gF:=?_,nT:=d.nT,size:=by rw[f];simp;exact d.size,bn:=by simp;exact d.bn}
  .intro j M m D l g;rw[n] at m;by_cases e:j=i
   .grind
   .rw[aN9 e] at m;obtain⟨L,O,H⟩:=d.mO j M m D l g;refine⟨L,?_,H⟩;have K:b≠D:=by
     intro y;subst y;rcases Nat.lt_or_ge j h.base with x|x;have:=d.old j b l x g;have:=d.low i b s p (by rw[t];rfl) C;omega;exact e (d.inj j i b l s x p (by rw[m];rfl) (by rw[t];rfl) g C)
    grind
  .intro j k r l sk a E m G g N;simp at a E;exact d.inj j k r l sk a E (c j m) (c k G) g N
  .intro j r l a m g;simp at a;exact d.low j r l a (c j m) g
  .intro j r l a g;simp at a;exact d.old j r l a g
  .intro j a;simp at a;exact d.fresh j a
  .intro j a;simp at a;rw[n,aab];exact d.gF j a
 .grind
 .grind
 .grind
 grind
theorem Vq (d:Inv P B ρ h w) {i b:Nat} {s s':Nat×Nat} {Q o:mR} {o':Obj} {w':World} (t:h.base<=i) (A:h.get i=some Q) (L:ρ i=some (b,s)) (hb:tX P (oQ ρ h.next (b,s')) s' o o')
  (u:w'.heap=w.heap.setIfInBounds b o') (K:w'.os=w.os) (D:w'.output=w.output) (v:w'.tape=w.tape):
  jR P B ρ h w (oQ ρ h.next (b,s')) ((h.set i none).alloc o) w':=by
 have n:Ext ρ (oQ ρ h.next (b,s')):=Ext.oQ (d.fresh _ (Nat.le_refl _))
 have l:∀j,((h.set i none).alloc o).get j=if j=h.next then some o else if j=i then none else h.get j:=fun j=>by
  rw[AH.wW (by simp;exact d.bn),AH.gM t];simp
 obtain⟨Z,J,_⟩:=d.mO i Q A b s L
 have S:b<w.heap.size:=(Array.getElem?_eq_some_iff.1 J).1
 have U:i<h.next:=by
  rcases Nat.lt_or_ge i h.next with E|E
  exact E;rw[d.gF i E] at A;cases A
 have G:=d.low i b s t (by rw[A];rfl) L
 have p:∀j x c,j≠h.next->((h.set i none).alloc o).get j≠none->ρ j=some (x,c)->(h.get j).isSome/\j≠i/\b≠x:=by
  intro j x c e m a;rw[l,aN9 e] at m;by_cases z:j=i;grind;rw[aN9 z] at m;have O:(h.get j).isSome:=by cases T:h.get j with|none=>exact absurd T m|some _=>rfl
  refine⟨O,z,?_⟩;intro H;subst H;rcases Nat.lt_or_ge j h.base with F|F;have:=d.old j b c F a;omega;exact z (d.inj j i b c s F t O (by rw[A];rfl) a L)
 refine {ext:=n,inv:=?_,un:=?_,lQ:=?_,stay:=fun j f N=>by grind,frame:=?_,range:=?_,base:=by simp,uZ:=?_,next:=by simp,size:=by rw[u];simp,os:=K,out:=D,tape:=v}
 .refine {mO:=?_,inj:=?_,low:=?_,old:=?_,fresh:=?_,gF:=?_,nT:=fun g I=>n _ _ (d.nT g I),size:=by grind,bn:=by simp;grind}
  .intro j W m x c a;by_cases e:j=h.next
   .subst e;rw[l,aNa rfl] at m;cases m;rw[bL] at a;grind
   .rw[bQ e] at a;obtain⟨_,z,C⟩:=p j x c e (by rw[m];simp) a;rw[l,aN9 e,aN9 z] at m;obtain⟨V,Y,R⟩:=d.mO j W m x c a;exact⟨V,by grind,R.mono n⟩
  .intro j k q c sk f M m X a y;simp at f M;by_cases e:j=h.next
   .by_cases r:k=h.next
    .rw[e,r]
    .rw[bQ r] at y;obtain⟨_,_,C⟩:=p k q sk r (by grind) y;subst e;rw[bL] at a;grind
   .rw[bQ e] at a;obtain⟨s1,_,C⟩:=p j q c e (by grind) a;by_cases r:k=h.next
    .subst r;rw[bL] at y;grind
    .rw[bQ r] at y;obtain⟨s2,_,_⟩:=p k q sk r (by grind) y;exact d.inj j k q c sk f M s1 s2 a y
  .intro j q c f m a;simp at f;by_cases e:j=h.next
   .subst e;rw[bL] at a;cases a;exact G
   .rw[bQ e] at a;obtain⟨s1,_,_⟩:=p j q c e (by grind) a;exact d.low j q c f s1 a
  .intro j q c f a;simp at f;have e:j≠h.next:=by have:=d.bn;omega
   rw[bQ e] at a
   exact d.old j q c f a
  .intro j f;simp at f;rw[bQ (by omega)];exact d.fresh j (by omega)
  .intro j f;simp at f;rw[l,aab,aab];exact d.gF j (by omega)
 .intro j f N;rw[bQ (by omega)];exact N
 .grind
 .grind
 .intro j q c f m a _;by_cases e:j=h.next
  .subst e;rw[bL] at a;grind
  .rw[bQ e] at a;grind
 grind
theorem cT (b o n:Nat):Addr.add ⟨b,o,none⟩ n=⟨b,o+n,none⟩:=by
 unfold Addr.add;grind
theorem uW {b e o:Nat} {c:Array Value} {fz:Nat×Nat} (hb:w.heap[b]?=some (.cells c e fz)):w.cell? ⟨b,o,none⟩=c[o]?:=by
 simp[World.cell?,hb]
theorem pU (p:Inv P B ρ h w) {a:Addr} {b n:Nat} {s:Nat×Nat} {l:List Value} (r:ρ a.block=some (b,s)) (d:bZ h a n=some l):
  ∃k,(loadCells ⟨b,a.off+s.2,none⟩ n).run P w= .ok ⟨k⟩ w/\aR ρ l k/\a.spot=none/\l.length=n:=by
 unfold bZ at d
 cases hs:a.spot with
 |some x=>simp[hs] at d
 |none=>
  simp only[hs,Option.isSome_none,Bool.false_eq_true,if_false] at d
  split at d
  .rename_i c e u x o;split at d
   .rename_i hle;cases d;obtain⟨A,q,f,rfl,g,t,_⟩:=p.mO _ _ o b s r;have i:=g.length;have m:(f.toList.drop s.2).length=f.size - s.2:=by simp
    refine⟨(((f.toList.drop s.2).take c.length).drop a.off).take n,?_,(g.drop _).take _,rfl,by simp;omega⟩
    have z:((((f.toList.drop s.2).take c.length).drop a.off).take n).length=n:=by
     grind
    have:=run_loadCells_list (P:=P) (w:=w) ⟨b,a.off+s.2,none⟩ ((((f.toList.drop s.2).take c.length).drop a.off).take n) (fun j v y=>by
     rw[cT,uW q];grind)
    grind
   .cases d
  .cases d
theorem oG {b e:Nat} {fz:Nat×Nat} (l:fz.2=0):∀(vs:List Value) (w:World) (c:Array Value) (a i:Nat),w.heap[b]?=some (.cells c e fz)->(∀v∈vs,v.oneCell'=true)->a+i+vs.length<=c.size->
  ∃f,(storeCells ⟨b,a,none⟩ vs i).run P w= .ok () f/\f.heap=w.heap.setIfInBounds b (.cells ⟨bV c.toList (a+i) vs⟩ e fz)/\f.os=w.os/\f.output=w.output/\f.tape=w.tape
 |[],w,c,a,i,k,_,_=>by
  refine⟨w,by simp[storeCells],?_,rfl,rfl,rfl⟩;simp only[bV,List.append_nil,List.length_nil,Nat.add_zero,List.take_append_drop];obtain⟨d,m⟩:=Array.getElem?_eq_some_iff.1 k;apply Array.ext_getElem?;intro j;by_cases g:b=j;subst g;simp[d,m];grind
 |v::vs,w,c,a,i,k,q,o=>by
  simp only[List.length_cons] at o;have x:w.cell? ⟨b,a+i,none⟩=some c[a+i]:=by rw[uW k];grind
  have y:w.frozen? ⟨b,a+i,none⟩=false:=by simp[World.frozen?,k,l]
  have n:(w.setCell ⟨b,a+i,none⟩ v).heap[b]?=some (.cells (c.setIfInBounds (a+i) v) e fz):=by
   simp[World.setCell,Array.getElem?_modify,k]
  obtain⟨f,z,r,s,p,t⟩:=oG l vs (w.setCell ⟨b,a+i,none⟩ v) (c.setIfInBounds (a+i) v) a (i+1) n (fun u p=>q u (List.mem_cons_of_mem _ p)) (by simp;omega);refine⟨f,?_,?_,s,p,t⟩;simp only[storeCells,Sem.run_bind];rw[cT,run_store P w _ v _ (q v List.mem_cons_self)];simp_all;rw[r];apply Array.ext_getElem?;intro j;by_cases g:b=j;subst g;have d:=(Array.getElem?_eq_some_iff.1 k).1;simp only[World.setCell];rw[Array.getElem?_setIfInBounds_self,Array.getElem?_setIfInBounds_self];simp only[Array.size_modify,d,if_true];congr 2;apply Array.ext';simp only[bV,Array.toList_setIfInBounds,List.length_cons];rw[show a+(i+1)=a+i+1 by omega,List.take_succ_eq_append_getElem (by simp;omega)];simp only[List.getElem_set_self,List.append_assoc,List.nil_append,List.take_set_of_le (Nat.le_refl _),List.cons_append];rw[List.drop_set_of_lt (by omega),show a+i+1+vs.length=a+i+(vs.length+1) by omega];rw[Array.getElem?_setIfInBounds_ne g,Array.getElem?_setIfInBounds_ne g];simp[World.setCell,Array.getElem?_modify,g]
theorem Av (J:Inv P B ρ h w) {a:Addr} {b:Nat} {s:Nat×Nat} {vs d:List Value} {h':AH} (K:ρ a.block=some (b,s)) (i:dI h a vs=some h') (F:aR ρ vs d):
  ∃C,(storeCells ⟨b,a.off+s.2,none⟩ d).run P w= .ok () C/\jR P B ρ h w ρ h' C/\a.spot=none:=by
 unfold dI at i
 split at i
 .cases i
 rename_i f
 simp only[Bool.or_eq_true,not_or,Bool.not_eq_true,decide_eq_false_iff_not,Bool.not_eq_false'] at f
 obtain⟨⟨z,l⟩,p⟩:=f
 have z:a.spot=none:=by cases U:a.spot with|none=>rfl|some _=>rw[U] at z;cases z
 split at i
 .rename_i c e R x I;split at i
  .rename_i hle;cases i;obtain⟨o',W,g,rfl,H,X,A⟩:=J.mO _ _ I b s K;have k:=H.length;have Y:=F.length;have r:∀v∈d,v.oneCell'=true:=by
    intro v G;obtain⟨j,V⟩:=List.getElem?_of_mem G;have q:j<vs.length:=by
     grind
    obtain⟨u,L,E⟩:=F.get (List.getElem?_eq_getElem q);rw[V] at L;cases L;exact E.Qj (List.all_eq_true.1 p _ (List.getElem_mem q))
   simp only[List.length_take] at k
   obtain⟨C,y,m,D,t,n⟩:=oG (P:=P) hle.1 d w g (a.off+s.2) 0 W r (by simp at k ⊢;omega)
   refine⟨C,y,uA J (Nat.not_lt.1 l) I K (o:= .cells (bV c a.off vs) e R x) ⟨_,rfl,?_,?_,fun h=>⟨(A h).1,(A h).2.1,by
    have S:=(A h).2.2;show(bV g.toList (a.off+s.2+0) d).length=(bV c a.off vs).length;have Z:g.toList.length=c.length:=by simpa using S
    have h5:=(A h).2.1;unfold bV;simp only[List.length_append,List.length_take,List.length_drop];omega⟩⟩ m D t n,z⟩
   .have:((bV g.toList (a.off+s.2+0) d).drop s.2).take (bV c a.off vs).length=bV ((g.toList.drop s.2).take c.length) a.off d:=by
     have T:(bV g.toList (a.off+s.2+0) d).drop s.2=bV (g.toList.drop s.2) a.off d:=by
      unfold bV;simp only[Nat.add_zero];rw[List.append_assoc,List.drop_append_of_le_length (by simp;omega),List.drop_take,List.drop_drop,List.append_assoc];rw[show a.off+s.2 - s.2=a.off by omega,show s.2+(a.off+d.length)=a.off+s.2+d.length by omega]
     rw[T];unfold bV;rw[List.take_append,List.take_append];simp only[List.length_append,List.length_take,List.length_drop,List.take_take];have M:min a.off c.length=a.off:=by omega
     have N:a.off+vs.length+(c.length - (a.off+vs.length))=c.length:=by omega
     rw[M,N];have O:min c.length a.off=a.off:=by omega
     have Q:min a.off (g.toList.length - s.2)=a.off:=by grind
     rw[O,Q];congr 1;congr 1;rw[List.take_of_length_le (by omega)];grind
    show aR ρ _ (((bV g.toList (a.off+s.2+0) d).drop s.2).take (bV c a.off vs).length)
    rw[this]
    exact H.bV _ F
   .simp only[bV,List.length_append,List.length_take,List.length_drop] at*;grind
  .cases i
 .cases i
end
section
variable {P:Program} {B:Nat} {ρ:hU} {h:AH} {w:World}
theorem Nu {t:TypeId} (a:P.cellsOf t≠0):∃i,P.info? t=some i/\i.size=P.cellsOf t:=by
 unfold Program.cellsOf at a ⊢;cases hi:P.info? t with
 |none=>simp[hi] at a
 |some i=>grind
theorem fI {t:TypeId} {i:TypeInfo} (a:P.info? t=some i):(sizeOf t).run P w= .ok (P.cellsOf t) w:=by
 simp[sizeOf,typeInfo,a,Program.cellsOf]
theorem Hr {t:TypeId} {d:TypeDesc} (a:P.underlying t=some d):∃i,P.info? t=some i:=by
 unfold Program.underlying at a;grind
theorem H6 {t:TypeId} {b:Bool} (hb:iQ P t=some b):(isAgg t).run P w= .ok b w:=by
 unfold iQ at hb;cases hd:P.underlying t with
 |none=>simp[hd] at hb
 |some d=>
  rw[hd] at hb;simp only[Option.map_some,Option.some.injEq] at hb;unfold isAgg;simp only[Sem.run_bind,run_underlying hd,Result.andThen_ok];subst hb;cases d<;>rfl
theorem Va {t:TypeId} {b:Bool} (hb:iQ P t=some b):∃i,P.info? t=some i:=by
 unfold iQ at hb;cases hd:P.underlying t with
 |none=>simp[hd] at hb
 |some d=>exact Hr hd
theorem sO {e:TypeId} {z:List Value} (a:zeroOf P e=some z):
  ∃i b,P.info? e=some i/\i.zero=some b/\(zeroValue e).run P w= .ok b w/\b.cells.toList=z/\z.length=P.cellsOf e/\(∀ρ:hU,aR ρ z z):=by
 unfold zeroOf at a
 cases hi:P.info? e with
 |none=>simp[hi] at a
 |some i=>
  cases hz0:i.zero with
  |none=>simp[hi,hz0] at a
  |some b=>
   simp only[hi,hz0,Option.bind_some] at a
   split at a
   .rename_i c;simp only[Bool.and_eq_true,beq_iff_eq] at c;cases a;refine⟨i,b,rfl,hz0,by simp[zeroValue,typeInfo,hi,hz0],rfl,by simpa using c.2,fun ρ=>?_⟩;have d:=fZ (ρ:=ρ) b c.1.1;exact d.cells (by cases b<;>first|rfl|simp[dR] at c)
   .cases a
theorem vQ {t:TypeId} {cs d:List Value} {c:Nat} {v:Value} (a:apart P t cs c=some v) (hc:aR ρ cs d):
  ∃e,(part t ⟨d⟩ c).run P w= .ok e w/\aE ρ v e:=by
 unfold apart at a
 cases hb:iQ P t with
 |none=>simp[hb] at a
 |some b=>
  obtain⟨i,g⟩:=Va hb
  rw[hb] at a
  cases b with
  |true=>
   simp only at a
   split at a
   .cases a;refine⟨.agg ⟨(d.drop c).take (P.cellsOf t)⟩,?_,?_⟩
    .simp only[part,Sem.run_bind,H6 hb,Result.andThen_ok,if_true,fI g,Sem.run_pure];grind
    .simp only[aE];exact⟨_,by simp only[kJ];exact(hc.drop c).take _,rfl⟩
   .cases a
  |false=>
   simp only at a
   obtain⟨e,f,j⟩:=hc.get a
   refine⟨e,?_,j⟩
   simp only[part,Sem.run_bind,H6 hb,Result.andThen_ok]
   simp[f]
theorem J6 (r:Inv P B ρ h w) {t:TypeId} {a:Addr} {p v:Value} (q:aE ρ (.pointer (some a)) p) (f:tL P h t a=some v):
  ∃o,(Instr.loadAt t p).run P w= .ok o w/\aE ρ v o:=by
 simp only[aE] at q
 obtain⟨b,s,u,rfl⟩:=q
 unfold tL at f
 cases hb:iQ P t with
 |none=>simp[hb] at f
 |some x=>
  obtain⟨i,m⟩:=Va hb
  rw[hb] at f
  cases x with
  |true=>
   simp only[Option.map_eq_some_iff] at f
   obtain⟨l,C,rfl⟩:=f
   obtain⟨F,n,d,k,_⟩:=pU r u C
   refine⟨.agg ⟨F⟩,?_,?_⟩
   .rw[k];simp only[Instr.loadAt,Instr.sureAddr,loadVar,Sem.run_bind,Sem.run_pure,Result.andThen_ok,H6 hb,if_true,fI m,n]
   .simp only[aE];exact⟨_,by simp only[kJ];exact d,rfl⟩
  |false=>
   simp only at f
   split at f
   .cases f
   .rename_i k;have k:a.spot=none:=by cases A:a.spot with|none=>rfl|some _=>rw[A] at k;exact absurd rfl k
    split at f
    .rename_i c e H x z;obtain⟨I,D,G,rfl,y,E,_⟩:=r.mO _ _ z b s u;obtain⟨o,g,d⟩:=y.get f;refine⟨o,?_,d⟩;have j:w.cell? ⟨b,a.off+s.2,none⟩=some o:=by
      rw[uW D];rw[List.getElem?_take] at g;split at g;rw[List.getElem?_drop] at g;rw[Nat.add_comm];simpa using g;cases g
     rw[k]
     simp only[Instr.loadAt,Instr.sureAddr,loadVar,Sem.run_bind,Sem.run_pure,Result.andThen_ok,H6 hb]
     simp[j]
    .cases f
theorem Ww (q:Inv P B ρ h w) {t:TypeId} {a:Addr} {l v v':Value} {h':AH} (m:aE ρ (.pointer (some a)) l) (u:aE ρ v v') (f:I3 P h t a v=some h'):
  ∃k,(Instr.storeAt t l v').run P w= .ok () k/\jR P B ρ h w ρ h' k:=by
 simp only[aE] at m
 obtain⟨b,s,r,rfl⟩:=m
 unfold I3 iE at f
 cases ht:wO v with
 |true=>simp[ht] at f
 |false=>
  simp only[ht,Bool.false_eq_true,if_false] at f
  split at f
  .rename_i p;obtain⟨n,d⟩:=p;obtain⟨i,j⟩:=Option.isSome_iff_exists.1 d;have c:=u.cells ht;obtain⟨k,o,g,e⟩:=Av q r f c;refine⟨k,?_,g⟩;rw[e];have x:=c.length;simp only[Instr.storeAt,Instr.sureAddr,storeVar,Sem.run_bind,Sem.run_pure,Result.andThen_ok,fI j];grind
  .cases f
def Ny (ρ:hU):List (Nat×Value)->List (Nat×Value)->Prop
 |[],l=>l=[]
 |(i,v)::l,b=>∃a t,aE ρ v a/\Ny ρ l t/\b=(i,a)::t
theorem Hf:∀(vs:List Value) (c:Array Value) (a i:Nat),a+i+vs.length<=c.size->
  ((vs.zipIdx i).foldl (fun d (x:Value×Nat)=>d.setIfInBounds (a+x.2) x.1) c)=⟨bV c.toList (a+i) vs⟩
 |[],c,a,i,_=>by
  apply Array.ext';simp[bV]
 |v::vs,c,a,i,b=>by
  simp only[List.length_cons] at b;simp only[List.zipIdx_cons,List.foldl_cons];rw[Hf vs (c.setIfInBounds (a+i) v) a (i+1) (by simp;omega)];congr 1;simp only[bV,Array.toList_setIfInBounds,List.length_cons];rw[show a+(i+1)=a+i+1 by omega,List.take_succ_eq_append_getElem (by simp;omega)];simp only[List.getElem_set_self,List.append_assoc,List.nil_append,List.take_set_of_le (Nat.le_refl _),List.cons_append];rw[List.drop_set_of_lt (by omega),show a+i+1+vs.length=a+i+(vs.length+1) by omega]
theorem Eo {place:Nat->Option (Nat×Nat)}:∀(b parts':List (Nat×Value)) (cells a r:List Value),Ny ρ b parts'->aR ρ cells a->E6 place cells b=some r->
  ∃m,Instr.fill place ⟨a⟩ parts'=some ⟨m⟩/\aR ρ r m
 |[],parts',cells,a,r,f,l,e=>by
  simp only[Ny] at f;subst f;simp only[E6,Option.some.injEq] at e;subst e;exact⟨a,rfl,l⟩
 |(i,v)::b,parts',cells,a,r,f,l,e=>by
  simp only[Ny] at f;obtain⟨y,t,x,u,rfl⟩:=f;simp only[E6] at e;split at e;rename_i k size z n d;unfold iE at d;split at d;cases d;rename_i j;cases d;split at e;rename_i p;have c:=x.cells (by simpa using j);have s:=c.length;have q:=l.length;obtain⟨m,o,g⟩:=Eo b t _ _ r u (l.bV k c) e;refine⟨m,?_,g⟩;simp only[Instr.fill,n];simp only[Array.length_toList] at s p;rw[aN9];rw[<-Array.foldl_toList,Array.toList_zipIdx];rw[Hf y.cells.toList ⟨a⟩ k 0 (by simp;omega)];simpa using o;grind;cases e;cases e
theorem Ny.map {α:Type} {f g:α->Value} {k:α->Nat} (a:∀x,aE ρ (f x) (g x)):∀l:List α,Ny ρ (l.map fun p=>(k p,f p)) (l.map fun p=>(k p,g p))
 |[]=>rfl
 |x::l=>⟨g x,_,a x,Ny.map a l,rfl⟩
theorem Md:∀(fs:List Field),(∀f∈fs,(P.info? f.type).isSome)->
  (fs.mapM (m:=Sem) fun f=>do pure (f.offset,<-sizeOf f.type)).run P w= .ok (fs.map fun f=>(f.offset,P.cellsOf f.type)) w
 |[],_=>by simp
 |f::fs,a=>by
  obtain⟨i,c⟩:=Option.isSome_iff_exists.1 (a f List.mem_cons_self);simp only[List.mapM_cons,Sem.run_bind,fI c,Result.andThen_ok,Sem.run_pure,Md fs (fun g b=>a g (List.mem_cons_of_mem _ b)),List.map_cons]
theorem T1 {t:TypeId} {a:List (Nat×Value)} {parts':Array (Nat×Value)} {v:Value} (D:Ny ρ a parts'.toList) (c:F9 P t a=some v):
  ∃E,(Instr.build t parts').run P w= .ok E w/\aE ρ v E:=by
 unfold F9 at c
 split at c
 .rename_i z q y r;obtain⟨i,C,_,_,j,g,_,k⟩:=sO (w:=w) y;split at c
  .rename_i o;simp only[Option.map_eq_some_iff] at c;obtain⟨l,u,rfl⟩:=c;obtain⟨A,p,b⟩:=Eo a parts'.toList z z l D (k ρ) u;refine⟨.agg ⟨A⟩,?_,by simp only[aE];exact⟨_,by simp only[kJ];exact b,rfl⟩⟩;have d:C.cells=⟨z⟩:=by rw[<-g]
   have x:(q.mapM (m:=Sem) fun f=>do pure (f.offset,<-sizeOf f.type)).run P w= .ok (q.map fun f=>(f.offset,P.cellsOf f.type)) w:=by
    rw[Array.mapM_eq_mapM_toList];simp only[Sem.run_map];rw[Md q.toList (fun f G=>by
     have:=Array.all_eq_true'.1 o f (by simpa using G);exact this)]
    simp only[Result.andThen_ok,Result.ok.injEq,and_true];grind
   simp only[Instr.build,Sem.run_bind,j,Result.andThen_ok,run_underlying r,x,d]
   simp_all
  .cases c
 .rename_i z n e y r;obtain⟨i,C,_,_,j,g,_,k⟩:=sO (w:=w) y;split at c
  .rename_i F;obtain⟨H,s⟩:=Option.isSome_iff_exists.1 F;simp only[Option.map_eq_some_iff] at c;obtain⟨l,u,rfl⟩:=c;obtain⟨A,p,b⟩:=Eo a parts'.toList z z l D (k ρ) u;refine⟨.agg ⟨A⟩,?_,by simp only[aE];exact⟨_,by simp only[kJ];exact b,rfl⟩⟩;have d:C.cells=⟨z⟩:=by rw[<-g]
   simp only[Instr.build,Sem.run_bind,j,Result.andThen_ok,run_underlying r,fI s,d,p]
   rfl
  .cases c
 .cases c
end
section
variable {P:Program} {B:Nat} {ρ:hU} {h:AH} {w:World}
def zQ (ρ:hU):Option Value->Option Value->Prop
 |none,v=>v=none
 |some v,a=>∃u,aE ρ v u/\a=some u
theorem zQ.map {c a:Operand->Value} (b:∀x,aE ρ (c x) (a x)) (o:Option Operand):zQ ρ (o.map c) (o.map a):=by
 cases o with
 |none=>rfl
 |some x=>exact⟨_,b x,rfl⟩
theorem sG {v v':Value} (c:aE ρ v v') {d y b r:Nat} (f:y<=b) (hb:jZ (some v) d y=some r):(∀code,(Instr.sliceBound v' b code).run P w= .ok r w)/\r<=y:=by
 unfold jZ at hb;split at hb;rename_i a;cases a;rename_i k i a;cases a;simp only[aE] at c;subst c;split at hb;rename_i e;cases hb;exact⟨fun code=>run_sliceBound w k i b code e.1 (by omega),by omega⟩;cases hb;cases hb
theorem tS {s p o t q y:Option Value} (a:zQ ρ s t) (e:zQ ρ p q) (j:zQ ρ o y) (isS:Bool) {len cap b m z l:Nat} (hc:cap<=b)
  (A:jZ o cap cap=some m) (i:(if p.isNone&&o.isSome then none else jZ p len m)=some z) (d:jZ s 0 z=some l):
  (Instr.sliceBounds isS len b t q y).run P w= .ok (l,z,if o.isSome then m else b) w/\m<=cap/\l<=z/\(o=none->m=cap):=by
 cases o with
 |none=>
  simp only[zQ] at j;subst j
  simp only[jZ,Option.some.injEq] at A;subst A
  cases p with
  |none=>
   simp only[zQ] at e;subst e
   simp[jZ] at i;subst i
   cases s with
   |none=>simp only[zQ] at a;subst a;simp[jZ] at d;subst d;simp[Instr.sliceBounds]
   |some v=>
    obtain⟨u,f,rfl⟩:=a
    obtain⟨k,hle⟩:=sG (P:=P) (w:=w) f (Nat.le_refl _) d
    simp[Instr.sliceBounds,k,hle]
  |some v=>
   obtain⟨u,f,rfl⟩:=e
   simp at i
   obtain⟨k,hle⟩:=sG (P:=P) (w:=w) f hc i
   cases s with
   |none=>simp only[zQ] at a;subst a;simp[jZ] at d;subst d;simp[Instr.sliceBounds,k]
   |some v=>
    obtain⟨u,f,rfl⟩:=a
    obtain⟨n,c⟩:=sG (P:=P) (w:=w) f (Nat.le_refl _) d
    simp[Instr.sliceBounds,k,n,c]
 |some x=>
  obtain⟨D,C,rfl⟩:=j
  obtain⟨r,g⟩:=sG (P:=P) (w:=w) C hc A
  cases p with
  |none=>simp at i
  |some v=>
   obtain⟨u,f,rfl⟩:=e
   simp at i
   obtain⟨k,hle⟩:=sG (P:=P) (w:=w) f (Nat.le_refl _) i
   cases s with
   |none=>simp only[zQ] at a;subst a;simp[jZ] at d;subst d;simp[Instr.sliceBounds,r,k,g]
   |some v=>
    obtain⟨u,f,rfl⟩:=a
    obtain⟨n,c⟩:=sG (P:=P) (w:=w) f (Nat.le_refl _) d
    simp[Instr.sliceBounds,r,k,n,c,g]
theorem Vz (hi:Inv P B ρ h w) {t:TypeId} {x x':Value} {lo K A N J O:Option Value} {v:Value} (z:aE ρ x x') (q:zQ ρ lo N) (p:zQ ρ K J) (g:zQ ρ A O)
  (d:tB P h t x lo K A=some v):∃v',(Instr.sliceAt t x' N J O).run P w= .ok v' w/\aE ρ v v':=by
 unfold tB at d
 split at d
 .rename_i n e a C;simp only[aE] at z;obtain⟨b,s,T,rfl⟩:=z;split at d
  .rename_i m R;split at d
   .rename_i k u;split at d
    .rename_i l F;split at d
     .rename_i G;cases d;obtain⟨i,f⟩:=Option.isSome_iff_exists.1 G.1;obtain⟨j,_,_,D⟩:=tS (P:=P) (w:=w) q p g false (Nat.le_refl n) R u F;have M:(if A.isSome then m else n)=m:=by simp_all
      rw[M] at j
      obtain⟨ab,Q,o⟩:=a
      obtain rfl:o=none:=G.2
      refine⟨.slice (some (if m=l then⟨b,Q+s.2,none⟩ else Addr.add ⟨b,Q+s.2,none⟩ (l*P.cellsOf e))) (k - l) (m - l),?_,?_⟩
      .simp only[Instr.sliceAt,Sem.run_bind,run_underlying C,Result.andThen_ok,Instr.sureAddr,Sem.run_pure,j,fI f]
      .rw[cT,cT];split<;>(simp only[aE];exact⟨b,s,_,T,Nat.le_refl _,Nat.le_add_right _ _,by grind⟩)
     .cases d
    .cases d
   .cases d
  .cases d
 .rename_i s C;simp only[aE] at z;subst z;split at d
  .cases d
  .rename_i H;have H:A=none:=by simp_all
   subst H
   split at d
   .rename_i k u;split at d
    .rename_i l F;cases d;obtain⟨j,_⟩:=tS (P:=P) (w:=w) q p g false (Nat.le_refl s.size) (m:=s.size) rfl (by simpa using u) F;simp only[zQ] at g;subst g;refine⟨.string (s.extract l k),?_,by simp only[aE]⟩;simp only[Instr.sliceAt,Instr.slice,Sem.run_bind,run_underlying C,Result.andThen_ok,Option.isSome_none,Bool.false_eq_true,if_false,Sem.run_pure] at j ⊢;simp[j]
    .cases d
   .cases d
 .rename_i e len I C;simp only[aE] at z;subst z;split at d
  .rename_i m R;split at d
   .rename_i k u;split at d
    .rename_i l F;split at d
     .rename_i G;cases d;obtain⟨i,f⟩:=Option.isSome_iff_exists.1 G;obtain⟨j,_,_,D⟩:=tS (P:=P) (w:=w) q p g true (Nat.le_refl I) R u F;have M:(if A.isSome then m else I)=m:=by simp_all
      rw[M] at j
      refine⟨.slice none (k - l) (m - l),?_,by simp only[aE]⟩
      simp only[Instr.sliceAt,Instr.slice,Sem.run_bind,run_underlying C,Result.andThen_ok,j,fI f,Sem.run_pure,Option.map_none]
      simp
     .cases d
    .cases d
   .cases d
  .cases d
 .rename_i e a len I C;obtain⟨ab,Q,o⟩:=a;split at d
  .rename_i m R;split at d
   .rename_i k u;split at d
    .rename_i l F;split at d
     .rename_i U;obtain⟨sp,rfl⟩:∃sp,o=some sp:=by cases o with|none=>simp at U|some sp=>exact⟨sp,rfl⟩
      split at d
      .rename_i G;obtain⟨f,rfl,rfl⟩:=G;cases d;obtain⟨i,f⟩:=Option.isSome_iff_exists.1 f;simp only[aE] at z;obtain⟨_,_,V,E,_,_,rfl⟩:=z;obtain⟨j,Y,X,D⟩:=tS (P:=P) (w:=w) q p g true (Nat.zero_le E) R u F;obtain rfl:m=0:=by omega
       have hz:k=0:=by
        cases K with
        |none=>
         simp_all
        |some v=>
         simp at u;unfold jZ at u;grind
       subst hz
       obtain rfl:l=0:=by omega
       cases r:A.isSome with
       |true=>
        refine⟨.slice (some V) 0 0,?_,?_⟩
        .simp only[Instr.sliceAt,Instr.slice,Sem.run_bind,run_underlying C,Result.andThen_ok,j,fI f,Sem.run_pure,Option.map_some,r,if_true]
        .simp only[if_true,tC,aE];grind
       |false=>
        refine⟨.slice (some (if E=0 then V else V.add (0*P.cellsOf e))) 0 E,?_,?_⟩
        .simp only[Instr.sliceAt,Instr.slice,Sem.run_bind,run_underlying C,Result.andThen_ok,j,fI f,Sem.run_pure,Option.map_some,r,Bool.false_eq_true,if_false,Nat.sub_zero];split<;>rfl
        .simp only[Bool.false_eq_true,if_false,aGd,aE];grind
      .cases d
     .rename_i U;have U:o=none:=by simp_all
      subst U
      simp only[aE] at z
      obtain⟨b,s,E,T,W,γ,rfl⟩:=z
      split at d
      .rename_i G;obtain⟨i,f⟩:=Option.isSome_iff_exists.1 G.1;obtain⟨j,Y,X,D⟩:=tS (P:=P) (w:=w) q p g true W R u F;have S:(Instr.sliceAt t (.slice (some ⟨b,Q+s.2,none⟩) len E) N J O).run P w=
         .ok (.slice (some (if(if A.isSome then m else E)=l then⟨b,Q+s.2,none⟩ else⟨b,Q+s.2+l*P.cellsOf e,none⟩)) (k - l) ((if A.isSome then m else E) - l)) w:=by
        simp only[Instr.sliceAt,Instr.slice,Sem.run_bind,run_underlying C,Result.andThen_ok,j,fI f,Sem.run_pure,Option.map_some,cT]
        grind
       refine⟨_,S,?_⟩
       split at d
       .rename_i L;subst L;obtain rfl:k=m:=by omega
        split at d
        .rename_i r;cases d;simp only[r,if_true,tC,aE];grind
        .rename_i r;have Z:A=none:=by simp_all
         subst Z
         have D:=D rfl
         subst D
         split at d
         .rename_i hex;cases d;unfold pV at hex;split at hex
          .rename_i c el fz x hg;cases hex;obtain⟨_,_,_,_,_,_,α⟩:=hi.mO _ _ hg b s T;have δ:s.1=0:=(α rfl).1;simp only[Option.isSome_none,Bool.false_eq_true,if_false,tC,aE];grind
          .cases hex
         .cases d;rw[cT];simp only[Option.isSome_none,Bool.false_eq_true,if_false,yS,aE];rw[Nat.sub_self];refine⟨trivial,trivial,_,E - k,fun k=>absurd k (by omega),fun _=>⟨b,s,T,by omega,fun β=>?_⟩,rfl⟩;grind
         .cases d
       .rename_i L;cases d;cases A with
        |none=>
         have D:=D rfl
         subst D
         simp only[Option.isSome_none,Bool.false_eq_true,if_false]
         rw[aab,cT]
         simp only[aE]
         grind
        |some y=>
         simp only[Option.isSome_some,if_true]
         rw[cT,aN9 L]
         simp only[aE]
         grind
      .cases d
    .cases d
   .cases d
  .cases d
 .cases d
end
section
variable {P:Program} {B:Nat} {ρ:hU} {h:AH} {w:World}
theorem tR {d:Nat} {eq:TypeId->Value->Value->Option Bool} (heq:∀t x y n o r,aE ρ x n->aE ρ y o->eq t x y=some r->(Op.equalIn d t n o).run P w= .ok r w)
  {xs ys c e:List Value} (j:aR ρ xs c) (l:aR ρ ys e):∀(fs:List Field) (r:Bool),lI P eq xs ys fs=some r->(Op.eqFields d ⟨c⟩ ⟨e⟩ fs).run P w= .ok r w
 |[],r,h=>by simp only[lI,Option.some.injEq] at h;subst h;simp[Op.eqFields]
 |f::fs,r,h=>by
  simp only[lI] at h;split at h;rename_i i;simp only[Op.eqFields,i,ne_eq,not_true_eq_false,if_false];exact tR heq j l fs r h;rename_i i;simp only[Op.eqFields,ne_eq,i,not_false_eq_true,if_true,Sem.run_bind];split at h;rename_i x y p q;obtain⟨n,k,a⟩:=vQ (P:=P) (w:=w) p j;obtain⟨o,m,b⟩:=vQ (P:=P) (w:=w) q l;simp only[k,m,Result.andThen_ok];split at h;rename_i g;have:=heq _ _ _ _ _ _ a b g;simp only[this,Result.andThen_ok];simpa using tR heq j l fs r h;rename_i g;cases h;have:=heq _ _ _ _ _ _ a b g;simp[this];cases h;cases h
theorem B3 {d:Nat} {e:TypeId} {eq:TypeId->Value->Value->Option Bool} (heq:∀t x y l m r,aE ρ x l->aE ρ y m->eq t x y=some r->(Op.equalIn d t l m).run P w= .ok r w)
  {xs ys c f:List Value} (n:aR ρ xs c) (o:aR ρ ys f):∀(is:List Nat) (r:Bool),qS P eq e xs ys is=some r->(Op.eqItems d e (P.cellsOf e) ⟨c⟩ ⟨f⟩ is).run P w= .ok r w
 |[],r,h=>by simp only[qS,Option.some.injEq] at h;subst h;simp[Op.eqItems]
 |i::is,r,h=>by
  simp only[qS] at h;simp only[Op.eqItems,Sem.run_bind];split at h;rename_i x y p q;obtain⟨l,j,a⟩:=vQ (P:=P) (w:=w) p n;obtain⟨m,k,b⟩:=vQ (P:=P) (w:=w) q o;simp only[j,k,Result.andThen_ok];split at h;rename_i g;have:=heq _ _ _ _ _ _ a b g;simp only[this,Result.andThen_ok];simpa using B3 heq n o is r h;rename_i g;cases h;have:=heq _ _ _ _ _ _ a b g;simp[this];cases h;cases h
set_option maxHeartbeats 1000000 in
theorem ky (d:Nat):∀(t:TypeId) (x y p q:Value) (r:Bool),aE ρ x p->aE ρ y q->yR P d t x y=some r->(Op.equalIn d t p q).run P w= .ok r w:=by
 induction d with
 |zero=>intro _ _ _ _ _ _ _ _ h;simp[yR] at h
 |succ d u=>
  intro t x y p q r g c h;unfold yR at h;split at h;rename_i f;simp only[aE] at g c;subst g;subst c;cases h;simp[Op.equalIn,run_underlying f];rename_i f;simp only[aE] at g c;subst g;subst c;split at h;rename_i C;cases h;simp[Op.equalIn,run_underlying f,C];cases h;rename_i f;simp only[aE] at g c;subst g;subst c;cases h;simp[Op.equalIn,run_underlying f];rename_i b f;simp only[aE] at g;subst g;cases h;cases b with
  |none=>simp only[aE] at c;subst c;simp[Op.equalIn,run_underlying f]
  |some b=>simp only[aE] at c;obtain⟨_,_,_,rfl⟩:=c;simp[Op.equalIn,run_underlying f]
  rename_i f;simp only[aE] at g c;obtain⟨_,_,_,rfl⟩:=g;subst c;cases h;simp[Op.equalIn,run_underlying f];rename_i f;simp only[aE] at g c;subst g;subst c;cases h;simp[Op.equalIn,run_underlying f];rename_i f;simp only[aE] at g c;subst g;obtain⟨_,_,rfl⟩:=c;cases h;simp[Op.equalIn,run_underlying f];rename_i f;simp only[aE] at g c;obtain⟨_,_,rfl⟩:=g;subst c;cases h;simp[Op.equalIn,run_underlying f];rename_i v D E f;simp only[aE] at g c;obtain⟨l,j,rfl⟩:=g;obtain⟨m,k,rfl⟩:=c;split at h;cases h;rename_i o;have s:P.fieldsOf t=v:=by simp[Program.fieldsOf,f]
  rw[run_equalIn_struct w d t l m (by rw[s];exact f) (by simpa using o),s];exact tR u (iL.1 j) (iL.1 k) _ _ h;rename_i n e D E f;simp only[aE] at g c;obtain⟨l,j,rfl⟩:=g;obtain⟨m,k,rfl⟩:=c;split at h;rename_i z;obtain⟨i,A⟩:=Option.isSome_iff_exists.1 z;rw[run_equalIn_array w d l m f A];exact B3 u (iL.1 j) (iL.1 k) _ _ h;cases h;rename_i b _ _ f;simp only[aE] at g;subst g;cases h;cases b with
  |none=>simp only[aE] at c;subst c;simp[Op.equalIn,run_underlying f]
  |some b=>
   obtain⟨_,_,sp⟩:=b;cases sp with
   |none=>simp only[aE] at c;obtain⟨_,_,_,_,_,_,rfl⟩:=c;simp[Op.equalIn,run_underlying f]
   |some _=>simp only[aE] at c;obtain⟨_,_,_,_,_,_,rfl⟩:=c;simp[Op.equalIn,run_underlying f]
  rename_i a _ _ _ _ f;simp only[aE] at c;subst c;cases h;obtain⟨_,_,sp⟩:=a;cases sp with
  |none=>simp only[aE] at g;obtain⟨_,_,_,_,_,_,rfl⟩:=g;simp[Op.equalIn,run_underlying f]
  |some _=>simp only[aE] at g;obtain⟨_,_,_,_,_,_,rfl⟩:=g;simp[Op.equalIn,run_underlying f]
  rename_i b f;simp only[aE] at g;subst g;cases h;cases b with
  |none=>simp only[aE] at c;subst c;simp[Op.equalIn,run_underlying f]
  |some b=>simp only[aE] at c;obtain⟨_,_,_,rfl⟩:=c;simp[Op.equalIn,run_underlying f]
  rename_i f;simp only[aE] at g c;obtain⟨_,_,_,rfl⟩:=g;subst c;cases h;simp[Op.equalIn,run_underlying f];rename_i f;simp only[aE] at g c;subst g;subst c;cases h;simp[Op.equalIn,run_underlying f];rename_i f;simp only[aE] at g c;subst g;obtain⟨_,_,_,_,_,_,rfl⟩:=c;cases h;simp[Op.equalIn,run_underlying f];rename_i f;simp only[aE] at g c;obtain⟨_,_,_,_,_,_,rfl⟩:=g;subst c;cases h;simp[Op.equalIn,run_underlying f];cases h
end
section
variable {P:Program} {B:Nat} {ρ:hU} {h:AH} {w:World}
theorem Ow {op:BinOp} {t:TypeId} {x y:Operand} {a b k l:Value} (d:aE ρ a k) (hb:aE ρ b l) (o:wO a=false) (n:wO b=false) (g:Hc P t x y a b=true):
  (eqGuard op t x y k l).run P w= .ok () w:=by
 cases a with
 |chan r=>simp[wO] at o
 |nilIface=>
  simp only[aE] at d;subst d
  cases b with
  |chan r=>simp[wO] at n
  |nilIface=>
   simp only[aE] at hb;subst hb
   simp only[Hc,Bool.or_eq_true] at g
   cases x with
   |const c=>rw[eqGuard_nil_constL];rfl
   |_=>
    cases y with
    |const c=>rw[eqGuard_nil_constR];rfl
    |_=>simp[isConst] at g
  |iface u v=>simp only[aE] at hb;obtain⟨_,_,rfl⟩:=hb;rw[eqGuard_nil_iface];rfl
  |agg e=>simp only[aE] at hb;obtain⟨_,_,rfl⟩:=hb;cases op<;>rfl
  |tuple e=>simp only[aE] at hb;obtain⟨_,_,rfl⟩:=hb;cases op<;>rfl
  |func m f c=>simp only[aE] at hb;obtain⟨_,_,_,_,_,_,rfl⟩:=hb;cases op<;>rfl
  |pointer a=>cases a with
   |none=>simp only[aE] at hb;subst hb;cases op<;>rfl
   |some a=>simp only[aE] at hb;obtain⟨_,_,_,rfl⟩:=hb;cases op<;>rfl
  |map a=>cases a with
   |none=>simp only[aE] at hb;subst hb;cases op<;>rfl
   |some a=>simp only[aE] at hb;obtain⟨_,_,_,rfl⟩:=hb;cases op<;>rfl
  |slice a _ _=>cases a with
   |none=>simp only[aE] at hb;subst hb;cases op<;>rfl
   |some a=>
    obtain⟨_,_,sp⟩:=a
    cases sp with
    |none=>simp only[aE] at hb;obtain⟨_,_,_,_,_,_,rfl⟩:=hb;cases op<;>rfl
    |some _=>simp only[aE] at hb;obtain⟨_,_,_,_,_,_,rfl⟩:=hb;cases op<;>rfl
  |_=>simp only[aE] at hb;subst hb;cases op<;>rfl
 |iface u v=>simp only[aE] at d;obtain⟨_,_,rfl⟩:=d;rw[eqGuard_at_iface];rfl
 |tuple e=>simp only[aE] at d;obtain⟨_,_,rfl⟩:=d;rw[eqGuard_at_tuple];rfl
 |func m f c=>simp only[aE] at d;obtain⟨_,_,_,_,_,_,rfl⟩:=d;rw[eqGuard_at_func];rfl
 |pointer a=>cases a with
  |none=>simp only[aE] at d;subst d;rw[eqGuard_at_pointer];rfl
  |some a=>simp only[aE] at d;obtain⟨_,_,_,rfl⟩:=d;rw[eqGuard_at_pointer];rfl
 |map a=>cases a with
  |none=>simp only[aE] at d;subst d;rw[eqGuard_at_map];rfl
  |some a=>simp only[aE] at d;obtain⟨_,_,_,rfl⟩:=d;rw[eqGuard_at_map];rfl
 |slice a _ _=>cases a with
  |none=>simp only[aE] at d;subst d;rw[eqGuard_at_slice];rfl
  |some a=>
   obtain⟨_,_,sp⟩:=a
   cases sp with
   |none=>simp only[aE] at d;obtain⟨_,_,_,_,_,_,rfl⟩:=d;rw[eqGuard_at_slice];rfl
   |some _=>simp only[aE] at d;obtain⟨_,_,_,_,_,_,rfl⟩:=d;rw[eqGuard_at_slice];rfl
 |bool _=>simp only[aE] at d;subst d;rw[eqGuard_at_bool];rfl
 |int _ _=>simp only[aE] at d;subst d;rw[eqGuard_at_int];rfl
 |float _ _=>simp only[aE] at d;subst d;rw[eqGuard_at_float];rfl
 |complex _ _ _=>simp only[aE] at d;subst d;rw[eqGuard_at_complex];rfl
 |string _=>simp only[aE] at d;subst d;rw[eqGuard_at_string];rfl
 |nilFunc=>simp only[aE] at d;subst d;rw[eqGuard_at_nilFunc];rfl
 |agg e=>
  simp only[aE] at d;obtain⟨i,_,rfl⟩:=d
  cases b with
  |agg p=>
   simp only[aE] at hb;obtain⟨j,_,rfl⟩:=hb
   simp only[Hc,Bool.not_eq_true'] at g
   exact run_eqGuard_agg w op t x y i j g
  |chan r=>simp[wO] at n
  |iface u v=>simp only[aE] at hb;obtain⟨_,_,rfl⟩:=hb;cases op<;>rfl
  |tuple e=>simp only[aE] at hb;obtain⟨_,_,rfl⟩:=hb;cases op<;>rfl
  |func m f c=>simp only[aE] at hb;obtain⟨_,_,_,_,_,_,rfl⟩:=hb;cases op<;>rfl
  |pointer a=>cases a with
   |none=>simp only[aE] at hb;subst hb;cases op<;>rfl
   |some a=>simp only[aE] at hb;obtain⟨_,_,_,rfl⟩:=hb;cases op<;>rfl
  |map a=>cases a with
   |none=>simp only[aE] at hb;subst hb;cases op<;>rfl
   |some a=>simp only[aE] at hb;obtain⟨_,_,_,rfl⟩:=hb;cases op<;>rfl
  |slice a _ _=>cases a with
   |none=>simp only[aE] at hb;subst hb;cases op<;>rfl
   |some a=>
    obtain⟨_,_,sp⟩:=a
    cases sp with
    |none=>simp only[aE] at hb;obtain⟨_,_,_,_,_,_,rfl⟩:=hb;cases op<;>rfl
    |some _=>simp only[aE] at hb;obtain⟨_,_,_,_,_,_,rfl⟩:=hb;cases op<;>rfl
  |_=>simp only[aE] at hb;subst hb;cases op<;>rfl
theorem Cc {d:Nat} {t:TypeId} {x y:Value} {r:Bool} (h:yR P d t x y=some r):wO x=false/\wO y=false:=by
 cases d with
 |zero=>simp[yR] at h
 |succ d=>unfold yR at h;split at h<;>first|exact⟨rfl,rfl⟩|cases h
theorem Ck {op:BinOp} {k k':IntKind} {t:TypeId} {m n:Int} {v:Value} (a:Jh op k m n=some v):(binOp op t (.int k m) (.int k' n)).run P w= .ok v w/\∀ρ:hU,aE ρ v v:=by
 unfold Jh at a;split at a;cases a;rename_i b;split at a;cases a;exact⟨by simp[binOp,Op.shift,b],fun ρ=>by simp only[aE]⟩;cases a;exact⟨by simp[binOp,Op.shift,b],fun ρ=>by simp only[aE]⟩;cases a
theorem yf {op:BinOp} {k:IntKind} {t:TypeId} {m n:Int} {v:Value} (a:Eh op k m n=some v):(binOp op t (.int k m) (.int k n)).run P w= .ok v w/\∀ρ:hU,aE ρ v v:=by
 cases op<;>simp only[Eh,aJ0,Option.map_some,Option.some.injEq] at a<;>try cases a
 case shl=>exact Ck a
 case shr=>exact Ck a
 case and=>exact⟨by simp[binOp,Op.intBits],fun ρ=>by simp only[aE]⟩
 case or=>exact⟨by simp[binOp,Op.intBits],fun ρ=>by simp only[aE]⟩
 case xor=>exact⟨by simp[binOp,Op.intBits],fun ρ=>by simp only[aE]⟩
 case andNot=>exact⟨by simp[binOp,Op.intBits],fun ρ=>by simp only[aE]⟩
 case add=>exact⟨by rw[binOp_add];rfl,fun ρ=>by simp only[aE]⟩
 case sub=>exact⟨by rw[binOp_sub];rfl,fun ρ=>by simp only[aE]⟩
 case mul=>exact⟨by rw[binOp_mul];rfl,fun ρ=>by simp only[aE]⟩
 case quo=>
  split at a;cases a;rename_i h;cases a;exact⟨by rw[binOp_quo];simp[Op.intDiv,h],fun ρ=>by simp only[aE]⟩
 case rem=>
  split at a;cases a;rename_i h;cases a;exact⟨by rw[binOp_rem];simp[Op.intDiv,h],fun ρ=>by simp only[aE]⟩
 case eql=>exact⟨by rw[binOp_eql];rfl,fun ρ=>by simp only[aE]⟩
 case neq=>exact⟨by rw[binOp_neq];rfl,fun ρ=>by simp only[aE]⟩
 case lss=>exact⟨by rw[binOp_lss];rfl,fun ρ=>by simp only[aE]⟩
 case leq=>exact⟨by rw[binOp_leq];rfl,fun ρ=>by simp only[aE]⟩
 case gtr=>exact⟨by rw[binOp_gtr];rfl,fun ρ=>by simp only[aE]⟩
 case geq=>exact⟨by rw[binOp_geq];rfl,fun ρ=>by simp only[aE]⟩
theorem vn {op:BinOp} {t:TypeId} {m n:ByteArray} {v:Value} (a:Ns op m n=some v):(binOp op t (.string m) (.string n)).run P w= .ok v w/\∀ρ:hU,aE ρ v v:=by
 cases op<;>simp only[Ns,Option.some.injEq] at a<;>try cases a
 case add=>
  split at a;rename_i h;cases a;refine⟨?_,fun ρ=>by simp only[aE]⟩;have:¬(((m.size+n.size:Nat):Int)>IntKind.i64.max):=by rw[IntKind.max_i64];omega
  simp only[binOp,Op.stringOp];rw[aN9 this];rfl;cases a
 case eql=>exact⟨by simp[binOp,Op.stringOp],fun ρ=>by simp only[aE]⟩
 case neq=>exact⟨by simp[binOp,Op.stringOp],fun ρ=>by simp only[aE]⟩
 case lss=>exact⟨by simp[binOp,Op.stringOp],fun ρ=>by simp only[aE]⟩
theorem B2 {t:TypeId} {a b g i:Value} {r:Bool} (d:aE ρ a g) (hb:aE ρ b i) (j:yR P 10000 t a b=some r) (q:∀k m l n,¬(a= .int k m/\b= .int l n)) (s:∀m n,¬(a= .string m/\b= .string n)):
  (binOp .eql t g i).run P w= .ok (.bool r) w/\(binOp .neq t g i).run P w= .ok (.bool !r) w:=by
 have A:(Op.equal t g i).run P w= .ok r w:=ky 10000 t a b g i r d hb j
 obtain⟨p,z⟩:=Cc j
 have x:∀op,(op=BinOp.eql\/op=BinOp.neq)->binOp op t g i=(if op= .eql then(do pure (.bool (<-Op.equal t g i)):Sem Value) else do pure (.bool (!(<-Op.equal t g i)))):=by
  intro op e;cases a with
  |chan r=>simp[wO] at p
  |int k m=>
   simp only[aE] at d;subst d;cases b with
   |int l n=>grind
   |_=>
    unfold yR at j;grind
  |string m=>
   simp only[aE] at d;subst d;cases b with
   |string n=>grind
   |_=>
    unfold yR at j;grind
  |float k m=>unfold yR at j;grind
  |complex k m n=>unfold yR at j;grind
  |tuple o=>unfold yR at j;grind
  |bool c=>simp only[aE] at d;subst d;rcases e with rfl|rfl<;>simp[binOp]
  |nilFunc=>simp only[aE] at d;subst d;rcases e with rfl|rfl<;>simp[binOp]
  |nilIface=>simp only[aE] at d;subst d;rcases e with rfl|rfl<;>simp[binOp]
  |iface u v=>simp only[aE] at d;obtain⟨_,_,rfl⟩:=d;rcases e with rfl|rfl<;>simp[binOp]
  |func y f c=>simp only[aE] at d;obtain⟨_,_,_,_,_,_,rfl⟩:=d;rcases e with rfl|rfl<;>simp[binOp]
  |agg o=>simp only[aE] at d;obtain⟨_,_,rfl⟩:=d;rcases e with rfl|rfl<;>simp[binOp]
  |pointer a=>cases a with
   |none=>simp only[aE] at d;subst d;rcases e with rfl|rfl<;>simp[binOp]
   |some a=>simp only[aE] at d;obtain⟨_,_,_,rfl⟩:=d;rcases e with rfl|rfl<;>simp[binOp]
  |map a=>cases a with
   |none=>simp only[aE] at d;subst d;rcases e with rfl|rfl<;>simp[binOp]
   |some a=>simp only[aE] at d;obtain⟨_,_,_,rfl⟩:=d;rcases e with rfl|rfl<;>simp[binOp]
  |slice a _ _=>cases a with
   |none=>simp only[aE] at d;subst d;rcases e with rfl|rfl<;>simp[binOp]
   |some a=>
    obtain⟨_,_,sp⟩:=a
    cases sp with
    |none=>simp only[aE] at d;obtain⟨_,_,_,_,_,_,rfl⟩:=d;rcases e with rfl|rfl<;>simp[binOp]
    |some _=>simp only[aE] at d;obtain⟨_,_,_,_,_,_,rfl⟩:=d;rcases e with rfl|rfl<;>simp[binOp]
 simp_all
theorem nc {op:BinOp} {t:TypeId} {x y:Operand} {a b p q v:Value} (f:aE ρ a p) (hb:aE ρ b q) (c:P7 P op t x y a b=some v):
  ∃A,(do eqGuard op t x y p q;binOp op t p q:Sem Value).run P w= .ok A w/\aE ρ v A:=by
 unfold P7 at c
 split at c
 .rename_i k m j n;simp only[aE] at f hb;subst f;subst hb;split at c
  .rename_i C;subst C;obtain⟨d,e⟩:=yf (P:=P) (w:=w) (t:=t) c;exact⟨v,by simp only[Sem.run_bind,eqGuard_at_int,Sem.run_pure,Result.andThen_ok,d],e ρ⟩
  .obtain⟨d,e⟩:=Ck (P:=P) (w:=w) (t:=t) (k':=j) c;exact⟨v,by simp only[Sem.run_bind,eqGuard_at_int,Sem.run_pure,Result.andThen_ok,d],e ρ⟩
 .rename_i m n;simp only[aE] at f hb;subst f;subst hb;obtain⟨d,e⟩:=vn (P:=P) (w:=w) (t:=t) c;exact⟨v,by simp only[Sem.run_bind,eqGuard_at_string,Sem.run_pure,Result.andThen_ok,d],e ρ⟩
 .rename_i s u;have g:∀k m j n,¬(a= .int k m/\b= .int j n):=fun k m j n l=>s k m j n l.1 l.2;have i:∀m n,¬(a= .string m/\b= .string n):=fun m n l=>u m n l.1 l.2;split at c
  .split at c
   .rename_i z;simp only[Option.map_eq_some_iff] at c;obtain⟨r,o,rfl⟩:=c;obtain⟨d,e⟩:=Cc o;refine⟨.bool r,?_,by simp only[aE]⟩;simp only[Sem.run_bind,Ow f hb d e z,Result.andThen_ok,(B2 f hb o g i).1]
   .cases c
  .split at c
   .rename_i z;simp only[Option.map_eq_some_iff] at c;obtain⟨r,o,rfl⟩:=c;obtain⟨d,e⟩:=Cc o;refine⟨.bool !r,?_,by simp only[aE]⟩;simp only[Sem.run_bind,Ow f hb d e z,Result.andThen_ok,(B2 f hb o g i).2]
   .cases c
  .cases c
end
section
variable {P:Program} {B:Nat} {ρ:hU} {h:AH} {w:World}
theorem Cq {r:Nat} {o:Obj} (a:w.heap[r]?=some o) (hc:∀c e f,o≠.cells c e f):(getObj r).run P w= .ok o w:=by
 simp only[getObj,Sem.run,a]
theorem sP {r:Nat} {o o':Obj} (a:w.heap[r]?=some o) (hc:∀c e f,o≠.cells c e f):(setObj r o').run P w= .ok () {w with heap:=w.heap.setIfInBounds r o'}:=by
 simp only[setObj,Sem.run,a]
theorem pA {r:Nat} {es:Array MapEntry} {c:Nat} (b:w.heap[r]?=some (.map es c)):(getObj r).run P w= .ok (.map es c) w:=
 Cq b fun _ _ _ a=>by cases a
theorem xD {r:Nat} {es:Array MapEntry} {c:Nat} {o':Obj} (b:w.heap[r]?=some (.map es c)):(setObj r o').run P w= .ok () {w with heap:=w.heap.setIfInBounds r o'}:=
 sP b fun _ _ _ a=>by cases a
theorem H9 {t e:TypeId} (h:Gf P t=some e):∃a k,P.underlying t=some (.map a e)/\P.underlying a=some (.int k):=by
 unfold Gf at h;grind
def V3 (ρ:hU):Option (Nat×Value)->Option (Nat×Value)->Prop
 |none,y=>y=none
 |some (i,v),y=>∃a,aE ρ v a/\y=some (i,a)
theorem F1 {kk k:IntKind} {n:Int}:∀(es:List (Value×Value×Nat)) (c:List MapEntry) (i:Nat) (r:Option (Nat×Value)),jW ρ es c->wM k n es i=some r->
  ∃f,Instr.findNow (.int kk) (.int k n) c i=some f/\V3 ρ r f
 |[],c,i,r,e,a=>by
  simp only[jW] at e;subst e;simp only[wM,Option.some.injEq] at a;subst a;exact⟨none,rfl,rfl⟩
 |(l,v,b)::es,c,i,r,e,a=>by
  obtain⟨y,p,t,o,q,s,rfl⟩:=e;cases l with
  |int j m=>
   simp only[aE] at o;subst o;simp only[wM] at a;split at a;rename_i u;subst u;split at a;rename_i g;simp only[Option.some.injEq] at a;subst a;refine⟨some (i,p),?_,p,q,rfl⟩;simp[Instr.findNow,Instr.sameNow,g];rename_i g;obtain⟨f,x,d⟩:=F1 (kk:=kk) es t (i+1) r s a;refine⟨f,?_,d⟩;have:(n==m)=false:=by simpa using g
   simp[Instr.findNow,Instr.sameNow,this,x];cases a
  |_=>simp[wM] at a
theorem nG {d:TypeId} {kk k:IntKind} {n:Int} (g:P.underlying d=some (.int kk)) {es:List (Value×Value×Nat)} {a:List MapEntry} {r:Option (Nat×Value)} (e:jW ρ es a) (f:wM k n es 0=some r):
  ∃c,(Instr.findKey d (.int k n) a).run P w= .ok c w/\V3 ρ r c:=by
 obtain⟨c,i,b⟩:=F1 (kk:=kk) es a 0 r e f
 refine⟨c,?_,b⟩
 simp only[Instr.findKey,Sem.run_bind,run_underlying g,Result.andThen_ok,i,Sem.run_pure]
theorem jG {a:TypeId} {kk k:IntKind} {n:Int} (b:P.underlying a=some (.int kk)) (e:Bool):(Instr.checkKey e 10000 a (.int k n)).run P w= .ok () w:=by
 show(Instr.checkKey e (9999+1) a (.int k n)).run P w= .ok () w;rw[Instr.checkKey,Sem.run_bind,run_underlying b];rfl
theorem iq {t:TypeId} {z:Value} (a:zeroV P t=some z):(zeroValue t).run P w= .ok z w/\aE ρ z z:=by
 unfold zeroV at a;cases hi:P.info? t with
 |none=>simp[hi] at a
 |some i=>
  cases hz0:i.zero with
  |none=>simp[hi,hz0] at a
  |some z0=>
   simp only[hi,hz0,Option.bind_some] at a;split at a;rename_i b;cases a;exact⟨by simp[zeroValue,typeInfo,hi,hz0],fZ _ b⟩;cases a
theorem ct (k:Inv P B ρ h w) {x f:Value} {es:List (Value×Value×Nat)} (e:aE ρ x f) (d:X0 h x=some es):
  ∃a,jW ρ es a/\((f= .map none/\a=[])\/∃r c,f= .map (some r)/\w.heap[r]?=some (.map ⟨a⟩ c)):=by
 unfold X0 at d
 split at d
 .cases d;simp only[aE] at e;exact⟨[],rfl,.inl ⟨e,rfl⟩⟩
 .rename_i r;split at d
  .rename_i g c j;cases d;simp only[aE] at e;obtain⟨b,s,i,rfl⟩:=e;obtain⟨n,l,a,m,rfl⟩:=k.mO _ _ j b s i;grind
  .cases d
 .cases d
theorem Zm (G:Inv P B ρ h w) {t:TypeId} {x D ix o v:Value} {ok:Bool} (K:aE ρ x D) (g:aE ρ ix o) (a:uD P h t x ix ok=some v):
  ∃q,(Instr.lookup t D o ok).run P w= .ok q w/\aE ρ v q:=by
 unfold uD at a
 split at a
 .rename_i e M k n H I;obtain⟨C,N,F,b⟩:=H9 H;obtain⟨s,E,y⟩:=ct G K I;simp only[aE] at g;subst g;have fin:∀(r:Option (Nat×Value)) (d:Option (Nat×Value)),(Instr.findKey C (.int k n) s).run P w= .ok d w->
    (Instr.lookup t D (.int k n) ok).run P w=(match d with
     |some (_,v)=>(.ok (if ok then .tuple #[v,.bool true] else v) w:Result Value)
     |none=>((zeroValue e).run P w).andThen fun z w=> .ok (if ok then .tuple #[z,.bool false] else z) w):=by
   intro r d f
   rcases y with⟨rfl,rfl⟩|⟨r,c,rfl,J⟩
   .unfold Instr.lookup;simp only[Sem.run_bind,run_underlying F,Result.andThen_ok,jG b,f,Sem.run_pure];cases d with
    |some p=>rfl
    |none=>simp_all
   .unfold Instr.lookup;simp only[Sem.run_bind,run_underlying F,Result.andThen_ok,pA J,jG b,f,Sem.run_pure];cases d with
    |some p=>rfl
    |none=>simp_all
  split at a
  .rename_i i v0 f;simp only[Option.some.injEq] at a;obtain⟨d,u,q,l,rfl⟩:=nG (w:=w) b E f;refine⟨_,fin none _ u,?_⟩;subst a;cases ok
   .exact l
   .show aE ρ (.tuple ⟨[v0,.bool true]⟩) (.tuple ⟨[q,.bool true]⟩);simp only[aE];exact⟨_,by simp only[kJ];exact aR.cons l (aR.cons (by simp only[aE]) aR.nil),rfl⟩
  .rename_i f;simp only[Option.map_eq_some_iff] at a;obtain⟨z,L,a⟩:=a;obtain⟨d,u,j⟩:=nG (w:=w) b E f;simp only[V3] at j;subst j;obtain⟨A,m⟩:=iq (w:=w) (ρ:=ρ) L;refine⟨_,by rw[fin none _ u,A];rfl,?_⟩;subst a;cases ok
   .exact m
   .show aE ρ (.tuple ⟨[z,.bool false]⟩) (.tuple ⟨[z,.bool false]⟩);simp only[aE];exact⟨_,by simp only[kJ];exact aR.cons m (aR.cons (by simp only[aE]) aR.nil),rfl⟩
  .cases a
 .cases a
theorem jW.length:∀{es:List (Value×Value×Nat)} {a:List MapEntry},jW ρ es a->es.length=a.length
 |[],_,b=>by simp only[jW] at b;subst b;rfl
 |(_,_,_)::es,_,⟨_,_,t,_,_,c,rfl⟩=>by simp[jW.length c]
theorem jW.snoc:∀{es:List (Value×Value×Nat)} {a:List MapEntry} {k k' v v':Value} {c:Nat},jW ρ es a->aE ρ k k'->aE ρ v v'->
  jW ρ (es++[(k,v,c)]) (a++[{key:=k',val:=v',born:=c}])
 |[],_,k,k',v,v',c,e,b,d=>by simp only[jW] at e;subst e;exact⟨k',v',[],b,d,rfl,rfl⟩
 |(_,_,_)::es,_,k,k',v,v',c,⟨j,v1,t,f,g,i,rfl⟩,b,d=>⟨j,v1,_,f,g,jW.snoc i b d,rfl⟩
theorem jW.erase:∀{es:List (Value×Value×Nat)} {a:List MapEntry} (i:Nat),jW ρ es a->jW ρ (es.eraseIdx i) (a.eraseIdx i)
 |[],_,i,e=>by simp only[jW] at e;subst e;simp[jW]
 |(_,_,_)::es,_,0,⟨_,_,t,c,d,b,rfl⟩=>b
 |(_,_,_)::es,_,i+1,⟨f,v1,t,c,d,b,rfl⟩=>⟨f,v1,_,c,d,jW.erase i b,rfl⟩
theorem jW.mod:∀{es:List (Value×Value×Nat)} {a:List MapEntry} (i:Nat) {k k' v v':Value},jW ρ es a->aE ρ k k'->aE ρ v v'->
  jW ρ (es.modify i fun e=>(k,v,e.2.2)) (a.modify i fun e=>{e with key:=k',val:=v'})
 |[],_,i,k,k',v,v',j,_,_=>by simp only[jW] at j;subst j;simp[jW]
 |(_,_,_)::es,_,0,k,k',v,v',⟨_,_,t,f,g,b,rfl⟩,c,d=>⟨k',v',t,c,d,b,rfl⟩
 |(_,_,_)::es,_,i+1,k,k',v,v',⟨l,v1,t,f,g,b,rfl⟩,c,d=>⟨l,v1,_,f,g,jW.mod i b c d,rfl⟩
theorem Gy {kk k:IntKind} {n:Int}:∀(a:List MapEntry) (i:Nat) {j:Nat} {v:Value},Instr.findNow (.int kk) (.int k n) a i=some (some (j,v))->i<=j/\∃e,a[j - i]?=some e/\e.key= .int k n
 |[],i,j,v,h=>by simp[Instr.findNow] at h
 |e::c,i,j,v,h=>by
  simp only[Instr.findNow] at h;split at h;rename_i b;simp only[Option.some.injEq,Prod.mk.injEq] at h;obtain⟨rfl,rfl⟩:=h;refine⟨Nat.le_refl _,e,by simp,?_⟩;cases hk:e.key with
  |int j m=>
   rw[hk] at b;simp only[Instr.sameNow] at b;grind
  |_=>rw[hk] at b;simp[Instr.sameNow] at b
  obtain⟨f,d,g,l⟩:=Gy c (i+1) h;grind;cases h
theorem Ka (j:Inv P B ρ h w) {a:Array TypeId} {ty t k e:TypeId} {x g:Value} {es:List (Value×Value×Nat)} (b:a[0]?=some t) (d:P.underlying t=some (.map k e)) (n:aE ρ x g) (l:X0 h x=some es):
  (Builtin.len_ a ty #[g]).run P w= .ok (goInt es.length) w:=by
 obtain⟨i,f,⟨rfl,rfl⟩|⟨r,c,rfl,m⟩⟩:=ct j n l
 .have:=f.length;simp[Builtin.len_,b,run_underlying d,this]
 .have:=f.length;simp[Builtin.len_,b,run_underlying d,pA m,this]
theorem Z3 (F:Inv P B ρ h w) {t:TypeId} {m O k k' x q:Value} {I:AH} (K:aE ρ m O) (J:aE ρ k k') (M:aE ρ x q) (g:Ba P h t m k x=some I):
  ∃R,(Instr.mapUpdate t O k' q).run P w= .ok () R/\jR P B ρ h w ρ I R:=by
 unfold Ba at g
 split at g
 .rename_i e r j n v;obtain⟨key,N,L,d⟩:=H9 v;split at g
  .cases g
  .rename_i C;split at g
   .rename_i S a E;simp only[Option.map_eq_some_iff] at g;obtain⟨o,l,rfl⟩:=g;simp only[aE] at K J;subst J;obtain⟨b,s,A,rfl⟩:=K;obtain⟨W,f,c,u,rfl⟩:=F.mO _ _ E b s A;unfold aB1 at l;split at l
    .rename_i i v0 z;simp only[Option.some.injEq] at l;subst l;obtain⟨U,G,Q,_,rfl⟩:=nG (w:=w) d u z;obtain⟨X,H,v2,_,rfl⟩:=F1 (kk:=N) S c 0 _ u z;obtain⟨_,V,D,T⟩:=Gy c 0 H;simp only[Nat.sub_zero] at D;have p:(Instr.keyThatStays (.int j n) (.int j n)).run P w= .ok (.int j n) w:=by
      simp[Instr.keyThatStays,Instr.sameBits]
     refine⟨{w with heap:=w.heap.setIfInBounds b (.map ((⟨c⟩:Array MapEntry).modify i fun e=>{e with key:= .int j n,val:=q}) a)},?_,?_⟩
     .unfold Instr.mapUpdate;simp only[Sem.run_bind,run_underlying L,Result.andThen_ok,pA f,jG d,G];rw[show((⟨c⟩:Array MapEntry)[i]?).map (·.key)=some (.int j n) by grind];simp only[Option.getD_some,p,Result.andThen_ok,xD f]
     .refine uA F (by omega) E A ?_ rfl rfl rfl rfl;refine⟨_,jW.mod i u (k':= .int j n) (v':=q) (by simp only[aE]) M,?_⟩;grind
    .rename_i z;simp only[Option.some.injEq] at l;subst l;obtain⟨U,G,y⟩:=nG (w:=w) d u z;simp only[V3] at y;subst y;refine⟨{w with heap:=w.heap.setIfInBounds b (.map ((⟨c⟩:Array MapEntry).push {key:= .int j n,val:=q,born:=a}) (a+1))},?_,?_⟩
     .unfold Instr.mapUpdate;simp only[Sem.run_bind,run_underlying L,Result.andThen_ok,pA f,jG d,G,xD f]
     .refine uA F (by omega) E A ?_ rfl rfl rfl rfl;refine⟨_,jW.snoc u (k':= .int j n) (v':=q) (by simp only[aE]) M,?_⟩;simp
    .cases l
   .cases g
 .cases g
theorem Xz (q:Inv P B ρ h w) {a:Array TypeId} {ty t:TypeId} {m H k k':Value} {G:AH} (y:a[0]?=some t) (v:aE ρ m H) (u:aE ρ k k') (c:D5 P h t m k=some G):
  ∃I,(Builtin.delete_ a ty ⟨[H,k']⟩).run P w= .ok (.tuple #[]) I/\jR P B ρ h w ρ G I:=by
 unfold D5 at c
 split at c
 .rename_i e J n g;obtain⟨F,K,x,d⟩:=H9 g;cases c;simp only[aE] at v u;subst v u;exact⟨w,by simp[Builtin.delete_,y,run_underlying x,jG d],jR.refl q⟩
 .rename_i e r J n g;obtain⟨F,K,x,d⟩:=H9 g;split at c
  .cases c
  .rename_i A;split at c
   .rename_i M f D;simp only[aE] at v u;subst u;obtain⟨b,s,z,rfl⟩:=v;obtain⟨N,j,l,p,rfl⟩:=q.mO _ _ D b s z;split at c
    .rename_i i v0 C;simp only[Option.some.injEq] at c;subst c;obtain⟨L,E,O,_,rfl⟩:=nG (w:=w) d p C;refine⟨{w with heap:=w.heap.setIfInBounds b (.map ((⟨l⟩:Array MapEntry).eraseIdxIfInBounds i) f)},?_,?_⟩
     .simp[Builtin.delete_,y,run_underlying x,jG d,pA j,E,xD j]
     .refine uA q (by omega) D z ?_ rfl rfl rfl rfl;refine⟨_,jW.erase i p,?_⟩;grind
    .rename_i C;simp only[Option.some.injEq] at c;subst c;obtain⟨L,E,o⟩:=nG (w:=w) d p C;simp only[V3] at o;subst o;refine⟨{w with heap:=w.heap.setIfInBounds b (.map ⟨l⟩ f)},?_,?_⟩
     .simp[Builtin.delete_,y,run_underlying x,jG d,pA j,E,xD j]
     .exact uA q (by omega) D z ⟨_,p,rfl⟩ rfl rfl rfl rfl
    .cases c
   .cases c
 .cases c
end
section
variable {P:Program} {B:Nat} {ρ:hU} {h:AH} {w:World}
theorem kJ.map {α:Type} {f g:α->Value} (b:∀x,aE ρ (f x) (g x)) (a:Array α):kJ ρ (a.map f) (a.map g):=by
 rw[iL];simp only[Array.toList_map];exact aR.Cz b _
theorem Tq {x e v:Value} (d:aE ρ x e) (b:strOf h x=some v):∃a n c,e= .slice a n c:=by
 unfold strOf at b;split at b;simp only[aE] at d;grind;rename_i a n c;obtain⟨_,_,sp⟩:=a;cases sp with
 |none=>simp only[aE] at d;grind
 |some _=>simp only[aE] at d;grind
 cases b
theorem J2 {f:Value->ByteArray->Sem (ForInStep ByteArray)} (k:∀n s,f (.int .u8 n) s=pure (.yield (s.push (UInt8.ofNat n.toNat)))):∀(l g:List Value) (e:List UInt8) (s:ByteArray),aR ρ l g->zT l=some e->
  (forIn (m:=Sem) g s f).run P w= .ok ⟨⟨s.data.toList++e⟩⟩ w
 |[],g,e,s,d,c=>by
  simp only[aR] at d;subst d;simp only[zT,Option.some.injEq] at c;subst c;simp
 |v::l,g,e,s,d,c=>by
  simp only[aR] at d;obtain⟨q,p,j,o,rfl⟩:=d;simp only[zT] at c;split at c;rename_i b r a i;cases c;unfold byteOf at a;split at a;cases a;simp only[aE] at j;subst j;simp only[List.forIn_cons,Sem.run_bind,k,Sem.run_pure,Result.andThen_ok];rw[J2 k l p r _ o i];simp;cases a;cases c
theorem km (r:Inv P B ρ h w) {x p v:Value} (e:aE ρ x p) (d:strOf h x=some v):∃m,(Conv.bytesToString p).run P w= .ok m w/\aE ρ v m:=by
 unfold strOf at d;split at d;cases d;simp only[aE] at e;subst e;exact⟨.string .empty,by simp[Conv.bytesToString],by simp only[aE]⟩;rename_i a n c;split at d;rename_i t;subst t;cases d;refine⟨.string .empty,?_,by simp only[aE]⟩;obtain⟨_,_,sp⟩:=a;cases sp with
 |none=>simp only[aE] at e;obtain⟨_,_,_,_,_,_,rfl⟩:=e;simp[Conv.bytesToString,loadCells,loadCellsFrom]
 |some _=>simp only[aE] at e;obtain⟨_,_,_,_,_,_,rfl⟩:=e;simp[Conv.bytesToString,loadCells,loadCellsFrom]
 simp only[Option.map_eq_some_iff,Option.bind_eq_some_iff] at d;obtain⟨j,⟨l,k,q⟩,rfl⟩:=d;obtain⟨i,o,sp⟩:=a;cases sp with
 |some _=>simp[bZ] at k
 |none=>
  simp only[aE] at e;obtain⟨b,s,z,u,_,_,rfl⟩:=e;obtain⟨y,g,f,_,_⟩:=pU r (a:=⟨i,o,none⟩) u k;refine⟨.string ⟨⟨j⟩⟩,?_,by simp only[aE]⟩;simp only[Conv.bytesToString,Sem.run_bind,g,Result.andThen_ok];rw[<-Array.forIn_toList];simp only[Sem.run_pure];rw[J2 (P:=P) (w:=w) (fun n s=>by rfl) l y j .empty f q];rfl
 cases d
set_option maxHeartbeats 1000000 in
theorem G2 (S:Inv P B ρ h w) {V A:Operand->Value} (m:∀x,aE ρ (V x) (A x)) (o:Oper) {v:Value} (l:bN P V h o.op=some v):
  ∃F,(execOp A o).run P w= .ok (.value F) w/\aE ρ v F:=by
 obtain⟨dst,op,ty,pos,after,guard⟩:=o
 simp only at l
 cases op with
 |move x=>simp only[bN,Option.some.injEq] at l;subst l;exact⟨_,rfl,m x⟩
 |assign x=>simp only[bN,Option.some.injEq] at l;subst l;exact⟨_,rfl,m x⟩
 |pick c a b=>
  simp only[bN] at l
  split at l
  .rename_i t G;have q:=m c;rw[G] at q;simp only[aE] at q;simp only[Option.some.injEq] at l;subst l;refine⟨if t then A a else A b,?_,by cases t<;>simp[m]⟩;simp[execOp,q,asBool]
  .cases l
 |build t M=>
  simp only[bN] at l
  obtain⟨F,K,r⟩:=T1 (w:=w) (parts':=M.map fun p=>(p.1,A p.2)) (by
   simp only[Array.toList_map];exact Ny.map (f:=fun p:Nat×Operand=>V p.2) (g:=fun p=>A p.2) (k:=fun p=>p.1) (fun p=>m p.2) _) l
  refine⟨F,?_,r⟩
  show(do pure (Next.value (<-Instr.build t (M.map fun(i,x)=>(i,A x)))):Sem Next).run P w=_
  simp_all
 |load t a=>
  simp only[bN] at l
  split at l
  .rename_i a0 N;have q:=m a;rw[N] at q;obtain⟨F,K,r⟩:=J6 S q l;exact⟨F,by simp[execOp,K],r⟩
  .cases l
 |nilCheck x=>
  simp only[bN] at l
  split at l
  .rename_i a N;have q:=m x;rw[N] at q;simp only[Option.some.injEq] at l;subst l;have D:=q;simp only[aE] at q;obtain⟨b,s,O,H⟩:=q;exact⟨A x,by simp[execOp,H],D⟩
  .rename_i f a b N;have q:=m x;rw[N] at q;simp only[Option.some.injEq] at l;subst l;have D:=q;simp only[aE,Dv] at q;obtain⟨_,_,_,rfl,_,_,H⟩:=q;exact⟨A x,by simp[execOp,H],D⟩
  .rename_i f a b N;have q:=m x;rw[N] at q;simp only[Option.some.injEq] at l;subst l;have D:=q;simp only[aE,Dv] at q;obtain⟨_,_,_,⟨_,_,_,rfl⟩,_,_,H⟩:=q;exact⟨A x,by simp[execOp,H],D⟩
  .cases l
 |binOp op t x y yt=>
  simp only[bN] at l
  obtain⟨F,K,r⟩:=nc (P:=P) (w:=w) (m x) (m y) l
  refine⟨F,?_,r⟩
  show(do pure (Next.value (<-(do eqGuard op t x y (A x) (A y);binOp op t (A x) (A y)))):Sem Next).run P w=_
  rw[Sem.run_bind,K]
  rfl
 |unOp op t x=>
  simp only[bN] at l
  split at l
  .rename_i k n E;have q:=m x;rw[E] at q;simp only[aE] at q;simp only[Option.some.injEq] at l;subst l;exact⟨.int k (k.wrap (0 - n)),by simp[execOp,q,Op.unary,Op.intArith],by simp only[aE]⟩
  .rename_i b E;have q:=m x;rw[E] at q;simp only[aE] at q;simp only[Option.some.injEq] at l;subst l;exact⟨.bool !b,by simp[execOp,q,Op.unary],by simp only[aE]⟩
  .cases l
 |convert s d x=>
  simp only[bN] at l
  split at l
  .rename_i ds k _ n Q I E;have q:=m x;rw[E] at q;simp only[aE] at q;simp only[Option.some.injEq] at l;subst l;exact⟨.int k (k.wrap n),by simp[execOp,q,convert,run_underlying Q,run_underlying I,Conv.intToInt],by simp only[aE]⟩
  .rename_i z Q I E;have q:=m x;rw[E] at q;simp only[aE] at q;simp only[Option.some.injEq] at l;subst l;exact⟨.string z,by simp[execOp,q,convert,run_underlying Q,run_underlying I],by simp only[aE]⟩
  .rename_i e Q I;split at l
   .rename_i H;obtain⟨F,K,r⟩:=km S (m x) l;refine⟨F,?_,r⟩;have X:(convert s d (A x)).run P w= .ok F w:=by
     obtain⟨a,n,c,E⟩:=Tq (m x) l;rw[E] at K ⊢;simp[convert,run_underlying Q,run_underlying I,run_underlying H,K]
    simp[execOp,X]
   .cases l
  .cases l
 |makeInterface t x=>
  simp only[bN] at l
  split at l
  .cases l
  .rename_i d I α;simp only[Option.some.injEq] at l;subst l;refine⟨.iface t (A x),?_,by simp only[aE];exact⟨_,m x,rfl⟩⟩;have:P.concrete t=true:=by
    unfold Program.concrete;rw[α];cases d<;>grind
   simp[execOp,run_makeInterface w t (A x) this]
  .cases l
 |makeFunc fn first L=>
  simp only[bN] at l
  split at l
  .rename_i f;simp only[Option.some.injEq] at l;subst l;refine⟨.func (.func f) (first.map A) (L.map A),by simp[execOp,Instr.makeFunc],?_⟩;simp only[aE,Dv];exact⟨_,_,_,rfl,kJ.map m _,kJ.map m _,rfl⟩
  .cases l
 |slice t x lo Z mx=>
  simp only[bN] at l
  obtain⟨F,K,r⟩:=Vz S (m x) (zQ.map m lo) (zQ.map m Z) (zQ.map m mx) l
  exact⟨F,by simp[execOp,K],r⟩
 |fieldAddr s x f=>
  simp only[bN] at l
  split at l
  .rename_i fs a I E;have q:=m x;rw[E] at q;simp only[aE] at q;obtain⟨b,sp,O,H⟩:=q;split at l
   .rename_i fd Y;split at l
    .cases l
    .rename_i hn;simp only[Option.some.injEq] at l;subst l;obtain⟨i,C,_⟩:=Nu hn;refine⟨.pointer (some (Addr.add ⟨b,a.off+sp.2,a.spot⟩ fd.offset)),?_,?_⟩
     .simp[execOp,H,Instr.fieldAt,run_underlying I,Y,Instr.sureAddr,fieldPlace,fI C,hn]
     .simp only[aE];refine⟨b,sp,?_,?_⟩
      .unfold Addr.add;split<;>exact O
      .unfold Addr.add;grind
   .cases l
  .cases l
 |field t x f=>
  simp only[bN] at l
  split at l
  .rename_i fs cs I E;have q:=m x;rw[E] at q;simp only[aE] at q;obtain⟨U,G,H⟩:=q;split at l
   .rename_i fd Y;obtain⟨F,K,r⟩:=vQ (P:=P) (w:=w) l (iL.1 G);exact⟨F,by simp[execOp,H,Instr.field,run_underlying I,Y,asAgg,K],r⟩
   .cases l
  .cases l
 |indexAddr t x i=>
  simp only[bN] at l
  split at l
  .rename_i n e a k j I E J;have q:=m x;have D:=m i;rw[E] at q;rw[J] at D;simp only[aE] at q D;obtain⟨b,sp,O,H⟩:=q;split at l
   .rename_i G;simp only[Option.some.injEq] at l;subst l;obtain⟨inf,C⟩:=Option.isSome_iff_exists.1 G.2.2;refine⟨.pointer (some (Addr.add ⟨b,a.off+sp.2,a.spot⟩ (j.toNat*P.cellsOf e))),?_,?_⟩
    .simp[execOp,H,D,Instr.indexAt,asIntOf,run_underlying I,Instr.sureAddr,G.1,G.2.1,fI C]
    .simp only[aE];refine⟨b,sp,?_,?_⟩
     .unfold Addr.add;split<;>exact O
     .unfold Addr.add;grind
   .cases l
  .rename_i e a n c k j I E J;have q:=m x;have D:=m i;rw[E] at q;rw[J] at D;split at l
   .rename_i G;obtain⟨ab,ao,T⟩:=a;obtain rfl:T=none:=G.2.2.2;simp only[aE] at q D;obtain⟨b,sp,c',O,_,_,H⟩:=q;simp only[Option.some.injEq] at l;subst l;obtain⟨inf,C⟩:=Option.isSome_iff_exists.1 G.2.2.1;refine⟨.pointer (some (Addr.add ⟨b,ao+sp.2,none⟩ (j.toNat*P.cellsOf e))),?_,?_⟩
    .simp[execOp,H,D,Instr.indexAt,asIntOf,run_underlying I,G.1,G.2.1,fI C]
    .rw[cT,cT];simp only[aE];grind
   .cases l
  .cases l
 |index t x i=>
  simp only[bN] at l
  split at l
  .rename_i n e cs k j I E J;have q:=m x;have D:=m i;rw[E] at q;rw[J] at D;simp only[aE] at q D;obtain⟨U,W,H⟩:=q;split at l
   .rename_i G;obtain⟨inf,C⟩:=Option.isSome_iff_exists.1 G.2.2;obtain⟨F,K,r⟩:=vQ (P:=P) (w:=w) l (iL.1 W);exact⟨F,by simp[execOp,H,D,Instr.index,asIntOf,run_underlying I,G.1,G.2.1,fI C,K],r⟩
   .cases l
  .rename_i s k j I E J;have q:=m x;have D:=m i;rw[E] at q;rw[J] at D;simp only[aE] at q D;split at l
   .rename_i G;simp only[Option.map_eq_some_iff] at l;obtain⟨u,hu,rfl⟩:=l;exact⟨.int .u8 u.toNat,by simp[execOp,q,D,Instr.index,asIntOf,run_underlying I,G,hu],by simp only[aE]⟩
   .cases l
  .cases l
 |extract t i=>
  simp only[bN] at l
  split at l
  .rename_i vs ht;have q:=m t;rw[ht] at q;simp only[aE] at q;obtain⟨β,G,H⟩:=q;obtain⟨F,R,r⟩:=(iL.1 G).get l;exact⟨F,by simp only[Array.getElem?_toList] at R;simp[execOp,H,Instr.extract,R],r⟩
  .cases l
 |lookup t x ix ok=>
  simp only[bN] at l
  obtain⟨F,K,r⟩:=Zm S (m x) (m ix) l
  exact⟨F,by simp[execOp,K],r⟩
 |_=>simp only[bN] at l;cases l
theorem xS (f:Nat->Value):(Array.range 0).map f= #[]:=by grind
theorem xI {z:List Value} {size:Nat} (c:z.length=size) (n:Nat):((Array.range (n*size)).map fun i=>(⟨z⟩:Array Value)[i % (⟨z⟩:Array Value).size]!)=⟨dY z n⟩:=by
 apply Array.ext';simp only[Array.toList_map,Array.toList_range];show(List.range (n*size)).map (fun i=>(⟨z⟩:Array Value)[i % z.length]!)=dY z n;subst c;induction n with
 |zero=>simp[dY]
 |succ n d=>
  rw[Nat.succ_mul,List.range_add,List.map_append,d];unfold dY;rw[List.replicate_succ',List.flatten_append];congr 1;simp only[List.flatten_cons,List.flatten_nil,List.append_nil,List.map_map];apply List.ext_getElem;simp;intro j a b;simp at a b;simp only[List.getElem_map,List.getElem_range,Function.comp];have e:(n*z.length+j) % z.length=j:=by rw[Nat.mul_comm,Nat.mul_add_mod,Nat.mod_eq_of_lt (by omega)]
  grind
theorem Co {z:List Value} (a:aR ρ z z) (n:Nat):aR ρ (dY z n) (dY z n):=by
 unfold dY;induction n with
 |zero=>exact aR.nil
 |succ n b=>rw[List.replicate_succ,List.flatten_cons];exact a.append b
theorem Gw {X d:Operand->Value} (q:∀x,aE ρ (X x) (d x)) (o:Oper) {b:mR} {f:Nat->Value} (a:dP P X o.op=some (b,f)):
  ∃(o':Obj) (g:Nat->Value),tX P ρ (0,0) b o'/\(execOp d o).run P w= .ok (.value (g w.heap.size)) (w.alloc o')/\∀(ρ':hU) i s,s.2=0->ρ' i=some (w.heap.size,s)->aE ρ' (f i) (g w.heap.size):=by
 obtain⟨dst,op,ty,pos,after,guard⟩:=o
 simp only at a
 cases op with
 |alloc e=>
  simp only[dP,Option.map_eq_some_iff] at a
  obtain⟨z,T,a⟩:=a
  cases a
  obtain⟨i,N,M,_,v,j,D,y⟩:=sO (w:=w) T
  refine⟨.cells N.cells e,fun n=> .pointer (some ⟨n,0,none⟩),⟨N.cells,rfl,?_,?_,fun _=>⟨rfl,rfl,by rw[<-j];simp⟩⟩,?_,?_⟩
  .simp only[List.drop_zero];rw[j,List.take_of_length_le (Nat.le_refl _)];exact y ρ
  .rw[<-j];simp
  .simp[execOp,Instr.alloc,v,newVar,newRow]
  .intro ρ' i s C A;simp only[aE];exact⟨_,_,A,by rw[C]⟩
 |box e x=>
  simp only[dP,Option.map_eq_some_iff] at a
  obtain⟨l,F,a⟩:=a
  cases a
  unfold iE at F
  split at F
  .cases F
  .rename_i ht;cases F;have L:=(q x).cells (by simpa using ht);have γ:=L.length;refine⟨.cells (d x).cells e,fun n=> .pointer (some ⟨n,0,none⟩),⟨_,rfl,?_,?_,fun _=>⟨rfl,rfl,by grind⟩⟩,?_,?_⟩
   .grind
   .grind
   .simp[execOp,Instr.box,newVar,newRow]
   .intro ρ' i s C A;simp only[aE];exact⟨_,_,A,by rw[C]⟩
 |buildSlice t len m=>
  simp only[dP] at a
  split at a
  .rename_i e Q;split at a
   .rename_i z T;obtain⟨i,N,M,_,v,j,D,y⟩:=sO (w:=w) T;split at a
    .rename_i hle;simp only[Option.map_eq_some_iff] at a;obtain⟨l,F,a⟩:=a;cases a;obtain⟨W,Z,S⟩:=Eo _ (m.map fun p=>(p.1,d p.2)).toList _ _ l (by
      simp only[Array.toList_map];exact Ny.map (f:=fun p:Nat×Operand=>X p.2) (g:=fun p=>d p.2) (k:=fun p=>p.1) (fun p=>q p.2) _) (Co (y ρ) len) F
     have δ:=S.length
     have K:N.cells=⟨z⟩:=by rw[<-j]
     refine⟨.cells ⟨W⟩ e,fun n=> .slice (some ⟨n,0,none⟩) len len,⟨_,rfl,?_,?_,fun _=>⟨rfl,rfl,by show W.length=l.length;omega⟩⟩,?_,?_⟩
     .grind
     .show 0+l.length+0*_<=W.length;omega
     .have R:¬len*P.cellsOf e>2^24:=by omega
      have J:Instr.fill (fun i=>some (i*P.cellsOf e,P.cellsOf e)) ⟨dY z len⟩ (m.map fun(x:Nat×Operand)=>(x.1,d x.2)).toList=some ⟨W⟩:=Z
      show(do pure (Next.value (<-Instr.buildSlice t len (m.map fun(i,x)=>(i,d x)))):Sem Next).run P w=_
      simp only[Instr.buildSlice,Sem.run_bind,run_underlying Q,Result.andThen_ok,fI M,R,if_false]
      have L:=xI D len
      by_cases E:len*P.cellsOf e=0
      .have u:(⟨dY z len⟩:Array Value)= #[]:=by rw[<-L,E,xS]
       rw[u] at J
       simp only[E,if_true,Sem.run_bind,Sem.run_pure,Result.andThen_ok]
       rw[xS,J]
       simp[newRow]
      .simp only[E,if_false,Sem.run_bind,v,Sem.run_pure,Result.andThen_ok,K];rw[L,J];simp[newRow]
     .intro ρ' i s C A;simp only[aE];exact⟨_,_,_,A,Nat.le_refl _,Nat.le_add_right _ _,by rw[C]⟩
    .cases a
   .cases a
  .cases a
 |makeSlice t l c=>
  simp only[dP] at a
  split at a
  .rename_i e k1 U k2 cc Q F L;split at a
   .rename_i z T;obtain⟨i,N,M,_,v,j,D,y⟩:=sO (w:=w) T;split at a
    .rename_i H;obtain⟨E,V,h2,h3⟩:=H;simp only[Option.some.injEq,Prod.mk.injEq] at a;obtain⟨rfl,rfl⟩:=a;have I:=q l;have G:=q c;rw[F] at I;rw[L] at G;simp only[aE] at I G;have K:N.cells=⟨z⟩:=by rw[<-j]
     have hb:i.bytes=P.bytesOf e:=by simp[Program.bytesOf,M]
     refine⟨.cells ⟨dY z cc.toNat⟩ e,fun n=> .slice (some ⟨n,0,none⟩) U.toNat cc.toNat,⟨_,rfl,?_,?_,fun _=>⟨rfl,rfl,rfl⟩⟩,?_,?_⟩
     .simp only[List.drop_zero];rw[List.take_of_length_le (Nat.le_refl _)];exact Co (y ρ) _
     .show 0+(dY z cc.toNat).length+0*_<=(dY z cc.toNat).length;omega
     .have β:IntKind.i64.wrap U=U:=IntWalk.i64_in _ ⟨by omega,by omega⟩;have α:IntKind.i64.wrap cc=cc:=IntWalk.i64_in _ ⟨by omega,by omega⟩;have t1:(typeInfo e).run P w= .ok i w:=by simp[typeInfo,M]
      have Y:((decide (cc<0)||decide ((i.bytes:Int)*cc>2^48))||decide (U<0)||decide (U>cc))=false:=by
       grind
      simp only[execOp,I,G,Instr.makeSlice,Sem.run_bind,run_underlying Q,Result.andThen_ok,asInt,asIntOf,Sem.run_pure,t1,β,α,Y,Bool.false_eq_true,if_false,run_askRoom,fI M]
      have O:=xI D cc.toNat
      by_cases E:cc.toNat*P.cellsOf e=0
      .have u:(⟨dY z cc.toNat⟩:Array Value)= #[]:=by rw[<-O,E,xS]
       rw[u]
       simp only[E,if_true,Sem.run_bind,Sem.run_pure,Result.andThen_ok]
       rw[xS]
       simp[newRow]
      .simp only[E,if_false,Sem.run_bind,v,Sem.run_pure,Result.andThen_ok,K];rw[O];simp[newRow]
     .intro ρ' i s C A;simp only[aE];exact⟨_,_,_,A,Nat.le_refl _,Nat.le_add_right _ _,by rw[C]⟩
    .cases a
   .cases a
  .cases a
 |makeMap t r=>
  cases r with
  |none=>
   simp only[dP,Option.some.injEq,Prod.mk.injEq] at a
   obtain⟨rfl,rfl⟩:=a
   refine⟨.map #[] 0,fun n=> .map (some n),⟨[],rfl,rfl⟩,rfl,?_⟩
   intro ρ' i s C A;simp only[aE];grind
  |some x=>
   simp only[dP] at a
   split at a
   .rename_i ε elem k n Q hx;simp only[Option.some.injEq,Prod.mk.injEq] at a;obtain⟨rfl,rfl⟩:=a;have V:=q x;rw[hx] at V;simp only[aE] at V;refine⟨.map #[] 0,fun n=> .map (some n),⟨[],rfl,rfl⟩,by simp[execOp,Instr.makeMap,V,run_underlying Q,asInt,asIntOf],?_⟩;intro ρ' i s C A;simp only[aE];grind
   .cases a
 |_=>simp only[dP] at a;cases a
end
end Go.Ab
