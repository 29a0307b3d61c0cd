/- A part of the proof. -/
import Derived.WalkKit
import Derived.AtR
import Derived.ChangeKeysEq
section
namespace Go.Ab
theorem aKi.{u} {c:Prop} {_:Decidable c} (n:¬c) {α:Sort u} {t e:α}:ite c t e=e:=if_neg n
theorem aab.{u} {c:Prop} {_:Decidable c} {α:Sort u} {t e:α}(n:¬c:=by omega):ite c t e=e:=if_neg n
theorem aKj.{u} {c:Prop} {_:Decidable c} (n:c) {α:Sort u} {t e:α}:ite c t e=t:=if_pos n
theorem aac.{u} {c:Prop} {_:Decidable c} {α:Sort u} {t e:α}(n:c:=by omega):ite c t e=t:=if_pos n
end Go.Ab
namespace Go.Ab
noncomputable section
def top:Value:= .chan none
def vS:Value->Bool
 |.chan _=>true
 |_=>false
def eJ:Value->Bool
 |.agg _|.tuple _|.chan _=>false
 |_=>true
mutual
def dZ:Value->Bool
 |.bool _|.int _ _|.string _|.pointer none|.slice none _ _|.map none|.nilFunc|.nilIface=>true
 |.iface _ v=>dZ v
 |.agg a=>uY a
 |.tuple a=>uY a
 |_=>false
def uY:Array Value->Bool
 |⟨l⟩=>nY l
def nY:List Value->Bool
 |[]=>true
 |v::l=>dZ v&&nY l
end
abbrev iP:=Nat->Option (Nat×(Nat×Nat))
def C8 (ρ:iP):Fn->Fn->Prop
 |.yield l,g=>∃b s,ρ l=some (b,s)/\g= .yield b
 |f,g=>g=f
mutual
def aF (ρ:iP):Value->Value->Prop
 |.bool b,d=>d= .bool b
 |.int k n,d=>d= .int k n
 |.float k n,d=>d= .float k n
 |.complex k n m,d=>d= .complex k n m
 |.string s,d=>d= .string s
 |.pointer none,d=>d= .pointer none
 |.pointer (some a),d=>∃b s,ρ a.block=some (b,s)/\d= .pointer (some ⟨b,a.off+s.2,a.spot⟩)
 |.slice none l c,d=>d= .slice none l c
 |.slice (some ⟨i,o,some x⟩) l c,d=>l=0/\c=0/\∃q f,(x=1->f=0)/\(x=2->∃b s,ρ i=some (b,s)/\f<=s.1/\(0<f->q=⟨b,o+s.2,none⟩))/\d= .slice (some q) 0 f
 |.slice (some ⟨i,o,none⟩) l c,d=>∃b s f,ρ i=some (b,s)/\c<=f/\f<=c+s.1/\d= .slice (some ⟨b,o+s.2,none⟩) l f
 |.map none,d=>d= .map none
 |.map (some r),d=>∃b s,ρ r=some (b,s)/\d= .map (some b)
 |.chan none,_=>True
 |.chan (some _),_=>False
 |.func y z g,d=>∃j p e,C8 ρ y j/\lG ρ z p/\lG ρ g e/\d= .func j p e
 |.nilFunc,d=>d= .nilFunc
 |.iface t v,d=>∃u,aF ρ v u/\d= .iface t u
 |.nilIface,d=>d= .nilIface
 |.agg g,d=>∃e,lG ρ g e/\d= .agg e
 |.tuple g,d=>∃e,lG ρ g e/\d= .tuple e
def lG (ρ:iP):Array Value->Array Value->Prop
 |⟨l⟩,a=>aU ρ l a.toList
def aU (ρ:iP):List Value->List Value->Prop
 |[],a=>a=[]
 |v::l,a=>∃c b,aF ρ v c/\aU ρ l b/\a=c::b
end
inductive oS where
 |cells (c:List Value) (elem:TypeId) (fz:Nat×Nat) (exact:Bool)
 |loop (st:LoopState) (pending:Option Code) (fn:FuncId) (tmps:List Value) (params:Array Tmp) (assign body:Code) (defers:Nat)
 |marks (here:Bool)
 |map (es:List (Value×Value×Nat)) (clock:Nat)
 |mapIter (m:Option Nat) (since:Nat) (seen:List Nat) (last:Nat)
 |Z8 (s:ByteArray) (pos:Nat)
inductive Tr (α:Type) where
 |lf
 |nd (v:α) (l r:Tr α)
noncomputable def Tr.get {α:Type} (d:α) (t:Tr α):Nat->α:=
 Tr.rec (motive:=fun _=>Nat->α) (fun _=>d) (fun v _ _ gl gr n=>Nat.rec (motive:=fun _=>α) v (fun m _=>Nat.rec (motive:=fun _=>α) (gl (Nat.div m 2)) (fun _ _=>gr (Nat.div m 2)) (Nat.mod m 2)) n) t
noncomputable def Tr.path {α:Type} (d:α) (f:Nat):Nat->α->Tr α:=
 Nat.rec (motive:=fun _=>Nat->α->Tr α) (fun _ _=> .lf) (fun _ a n o=>Nat.rec (motive:=fun _=>Tr α) (.nd o .lf .lf) (fun m _=>Nat.rec (motive:=fun _=>Tr α) (.nd d (a (Nat.div m 2) o) .lf) (fun _ _=> .nd d .lf (a (Nat.div m 2) o)) (Nat.mod m 2)) n) f
noncomputable def Tr.set {α:Type} (d:α) (t:Tr α):Nat->α->Tr α:=
 Tr.rec (motive:=fun _=>Nat->α->Tr α) (fun n o=>Tr.path d (n+1) n o)
  (fun v l r a b n o=>Nat.rec (motive:=fun _=>Tr α) (.nd o l r) (fun m _=>Nat.rec (motive:=fun _=>Tr α) (.nd v (a (Nat.div m 2) o) r) (fun _ _=> .nd v l (b (Nat.div m 2) o)) (Nat.mod m 2)) n) t
theorem Pa {β:Type} (n:Nat) (a b:β):Nat.rec (motive:=fun _=>β) a (fun _ _=>b) (Nat.mod n 2)=if n % 2=0 then a else b:=by
 show Nat.rec (motive:=fun _=>β) a (fun _ _=>b) (n % 2)=_;cases n % 2<;>rfl
theorem Tr.Px {α:Type} (d:α) (n:Nat):(Tr.lf:Tr α).get d n=d:=rfl
theorem Tr.Oc {α:Type} (d v:α) (l r:Tr α):(Tr.nd v l r).get d 0=v:=rfl
theorem Tr.Gu {α:Type} (d v:α) (l r:Tr α) (n:Nat):(Tr.nd v l r).get d (n+1)=if n % 2=0 then l.get d (n/2) else r.get d (n/2):=Pa _ _ _
theorem Tr.aEb {α:Type} (d:α) (f:Nat) (o:α):Tr.path d (f+1) 0 o= .nd o .lf .lf:=rfl
theorem Tr.aEn {α:Type} (d:α) (f n:Nat) (o:α):Tr.path d (f+1) (n+1) o=if n % 2=0 then .nd d (Tr.path d f (n/2) o) .lf else .nd d .lf (Tr.path d f (n/2) o):=Pa _ _ _
theorem Tr.aCg {α:Type} (d:α) (n:Nat) (o:α):(Tr.lf:Tr α).set d n o=Tr.path d (n+1) n o:=rfl
theorem Tr.aH1 {α:Type} (d v:α) (l r:Tr α) (o:α):(Tr.nd v l r).set d 0 o= .nd o l r:=rfl
theorem Tr.aH2 {α:Type} (d v:α) (l r:Tr α) (n:Nat) (o:α):(Tr.nd v l r).set d (n+1) o=if n % 2=0 then .nd v (l.set d (n/2) o) r else .nd v l (r.set d (n/2) o):=Pa _ _ _
theorem Tr.Vb {α:Type} (d:α):∀(f n m:Nat) (o:α),n<f->(Tr.path d f n o).get d m=if m=n then o else d
 |0,n,_,_,h=>absurd h (Nat.not_lt_zero n)
 |f+1,0,m,o,_=>by
  rw[Tr.aEb];cases m with
  |zero=>simp[Tr.Oc]
  |succ m=>simp[Tr.Gu,Tr.Px]
 |f+1,n+1,m,o,h=>by
  have c:=fun m=>Tr.Vb d f (n/2) m o (by omega);rw[Tr.aEn];by_cases b:n % 2=0;rw[aKj b];cases m with
  |zero=>simp[Tr.Oc]
  |succ m=>
   rw[Tr.Gu];by_cases a:m % 2=0;grind;rw[aKi a,Tr.Px];grind
  rw[aKi b];cases m with
  |zero=>simp[Tr.Oc]
  |succ m=>
   rw[Tr.Gu];by_cases a:m % 2=0;rw[aKj a,Tr.Px];grind;grind
theorem Tr.jR {α:Type} (d:α):∀(t:Tr α) (n m:Nat) (o:α),(t.set d n o).get d m=if m=n then o else t.get d m
 |.lf,n,m,o=>by rw[Tr.Px,Tr.aCg];exact Tr.Vb d (n+1) n m o (Nat.lt_succ_self _)
 |.nd v l r,0,m,o=>by
  rw[Tr.aH1];cases m with
  |zero=>simp[Tr.Oc]
  |succ m=>simp[Tr.Gu]
 |.nd v l r,n+1,m,o=>by
  rw[Tr.aH2];by_cases b:n % 2=0;rw[aKj b];cases m with
  |zero=>simp[Tr.Oc]
  |succ m=>
   rw[Tr.Gu,Tr.Gu];by_cases a:m % 2=0;rw[aKj a,aKj a,Tr.jR d l];grind;grind
  rw[aKi b];cases m with
  |zero=>simp[Tr.Oc]
  |succ m=>
   rw[Tr.Gu,Tr.Gu];by_cases a:m % 2=0;grind;rw[aKi a,aKi a,Tr.jR d r];grind
structure AH where
 base:Nat
 next:Nat
 old:Nat->Option oS
 new:Tr (Option oS)
def AH.get (h:AH) (i:Nat):Option oS:=AH.rec (motive:=fun _=>Option oS) (fun a _ b new=>Bool.rec (motive:=fun _=>Option oS) (new.get none (Nat.sub i a)) (b i) (Nat.blt i a)) h
def AH.set (h:AH) (i:Nat) (o:Option oS):AH:=AH.rec (motive:=fun _=>AH) (fun a next b new=>Bool.rec (motive:=fun _=>AH) ⟨a,next,b,new.set none (Nat.sub i a) o⟩ ⟨a,next,b,new⟩ (Nat.blt i a)) h
def AH.alloc (h:AH) (o:oS):AH:=AH.rec (motive:=fun _=>AH) (fun a next b new=>⟨a,Nat.succ next,b,new.set none (Nat.sub next a) (some o)⟩) h
theorem AH.get_eq (h:AH) (i:Nat):h.get i=if i<h.base then h.old i else h.new.get none (i - h.base):=by
 obtain⟨a,next,b,new⟩:=h;simp only[AH.get];cases hb:Nat.blt i a with
 |true=>simp_all
 |false=>rw[aKi (by rw[<-Nat.blt_eq,hb];simp)];rfl
theorem AH.set_eq (h:AH) (i:Nat) (o:Option oS):h.set i o=if i<h.base then h else {h with new:=h.new.set none (i - h.base) o}:=by
 obtain⟨a,next,b,new⟩:=h;simp only[AH.set];cases hb:Nat.blt i a with
 |true=>simp_all
 |false=>rw[aKi (by rw[<-Nat.blt_eq,hb];simp)];rfl
theorem AH.alloc_eq (h:AH) (o:oS):h.alloc o={h with new:=h.new.set none (h.next - h.base) (some o),next:=h.next+1}:=rfl
theorem AH.jR {h:AH} {i j:Nat} {o:Option oS} (a:h.base<=i):(h.set i o).get j=if j=i then o else h.get j:=by
 rw[AH.set_eq,aKi (Nat.not_lt.2 a),AH.get_eq,AH.get_eq];by_cases b:j<h.base;grind;simp only[b,if_false,Tr.jR];grind
@[simp] theorem AH.Uk {h:AH} {i:Nat} {o:Option oS}:(h.set i o).base=h.base:=by rw[AH.set_eq];split<;>rfl
@[simp] theorem AH.qx {h:AH} {i:Nat} {o:Option oS}:(h.set i o).next=h.next:=by rw[AH.set_eq];split<;>rfl
@[simp] theorem AH.aDm {h:AH} {o:oS}:(h.alloc o).base=h.base:=rfl
@[simp] theorem AH.aF1 {h:AH} {o:oS}:(h.alloc o).next=h.next+1:=rfl
theorem AH.wR {h:AH} {j:Nat} {o:oS} (hb:h.base<=h.next):(h.alloc o).get j=if j=h.next then some o else h.get j:=by
 rw[AH.alloc_eq,AH.get_eq,AH.get_eq];by_cases a:j<h.base;grind;simp only[a,if_false,Tr.jR];grind
def cF (c:List Value) (a:Nat) (xs:List Value):List Value:=c.take a++xs++c.drop (a+xs.length)
end
end Go.Ab
end
section
namespace Go.Ab
noncomputable section
def jM (P:Program) (t:TypeId):Option Bool:=
 (P.underlying t).map fun|.struct _|.array _ _=>true|_=>false
def zeroOf (P:Program) (t:TypeId):Option (List Value):=
 ((P.info? t).bind (·.zero)).bind fun z=>
  if dZ z&&z.cells.toList.all eJ&&z.cells.size==P.cellsOf t then some z.cells.toList else none
def bytesOf (P:Program) (t:TypeId):Nat:=P.bytesOf t
def cJ (h:AH) (a:Addr) (n:Nat):Option (List Value):=
 if a.spot.isSome then none else
 match h.get a.block with
 |some (.cells c _ _ _)=>if a.off+n<=c.length then some ((c.drop a.off).take n) else none
 |_=>none
def wI (P:Program) (h:AH) (t:TypeId) (a:Addr):Option Value:=
 match jM P t with
 |some true=>(cJ h a (P.cellsOf t)).map fun l=> .agg ⟨l⟩
 |some false=>
  if a.spot.isSome then none else
  match h.get a.block with
  |some (.cells c _ _ _)=>c[a.off]?
  |_=>none
 |none=>none
def dI (h:AH) (a:Addr) (vs:List Value):Option AH:=
 if a.spot.isSome||a.block<h.base|| !vs.all eJ then none else
 match h.get a.block with
 |some (.cells c e b x)=>if b.2=0/\a.off+vs.length<=c.length then some (h.set a.block (some (.cells (cF c a.off vs) e b x))) else none
 |_=>none
def iK (v:Value):Option (List Value):=if vS v then none else some v.cells.toList
def Q0 (P:Program) (h:AH) (t:TypeId) (a:Addr) (v:Value):Option AH:=
 match iK v with
 |some b=>if b.length=P.cellsOf t/\(P.info? t).isSome then dI h a b else none
 |none=>none
def apart (P:Program) (t:TypeId) (cs:List Value) (a:Nat):Option Value:=
 match jM P t with
 |some true=>if a+P.cellsOf t<=cs.length then some (.agg ⟨(cs.drop a).take (P.cellsOf t)⟩) else none
 |some false=>cs[a]?
 |none=>none
def D9 (place:Nat->Option (Nat×Nat)) (cells:List Value):List (Nat×Value)->Option (List Value)
 |[]=>some cells
 |(i,v)::rest=>
  match place i,iK v with
  |some (a,size),some b=>if b.length=size/\a+b.length<=cells.length then D9 place (cF cells a b) rest else none
  |_,_=>none
def K7 (P:Program) (t:TypeId) (a:List (Nat×Value)):Option Value:=
 match zeroOf P t,P.underlying t with
 |some z,some (.struct b)=>
  if b.all (fun f=>(P.info? f.type).isSome) then(D9 (fun i=>(b[i]?).map fun f=>(f.offset,P.cellsOf f.type)) z a).map fun l=> .agg ⟨l⟩ else none
 |some z,some (.array _ e)=>
  if(P.info? e).isSome then(D9 (fun i=>some (i*P.cellsOf e,P.cellsOf e)) z a).map fun l=> .agg ⟨l⟩ else none
 |_,_=>none
def dY (z:List Value) (n:Nat):List Value:=(List.replicate n z).flatten
def lS (v:Option Value) (a:Nat) (b:Nat):Option Nat:=
 match v with
 |none=>some a
 |some (.int _ i)=>if 0<=i/\i<=b then some i.toNat else none
 |some _=>none
def zU (a:Addr):Value:= .slice (some ⟨a.block,a.off,some 2⟩) 0 0
def tB:Value:= .slice (some ⟨0,0,some 1⟩) 0 0
def aE6:Value:= .slice (some ⟨0,0,some 0⟩) 0 0
def nR (h:AH) (i:Nat):Option Bool:=match h.get i with|some (.cells _ _ _ x)=>some x|_=>none
def uW (P:Program) (h:AH) (t:TypeId) (x:Value) (g f d:Option Value):Option Value:=
 match P.underlying t,x with
 |some (.array n e),.pointer (some a)=>
  match lS d n n with
  |some m=>match(if f.isNone&&d.isSome then none else lS f n m) with
   |some c=>match lS g 0 c with
    |some l=>if(P.info? e).isSome/\a.spot=none then some (.slice (some (if m=l then a else a.add (l*P.cellsOf e))) (c - l) (m - l)) else none
    |none=>none
   |none=>none
  |none=>none
 |some .string,.string s=>
  if d.isSome then none else
  match lS f s.size s.size with
  |some c=>match lS g 0 c with
   |some l=>some (.string (s.extract l c))
   |none=>none
  |none=>none
 |some (.slice e),.slice none len b=>
  match lS d b b with
  |some m=>match(if f.isNone&&d.isSome then none else lS f len m) with
   |some c=>match lS g 0 c with
    |some l=>if(P.info? e).isSome then some (.slice none (c - l) (m - l)) else none
    |none=>none
   |none=>none
  |none=>none
 |some (.slice e),.slice (some a) len b=>
  match lS d b b with
  |some m=>match(if f.isNone&&d.isSome then none else lS f len m) with
   |some c=>match lS g 0 c with
    |some l=>
     if a.spot.isSome then(if(P.info? e).isSome/\len=0/\b=0 then some (if d.isSome then tB else aE6) else none) else
     if(P.info? e).isSome/\c<=m then
      (if m=l then
       if d.isSome then some tB else
       match nR h a.block with
       |some true=>some tB
       |some false=>some (zU (a.add (l*P.cellsOf e)))
       |none=>none
      else some (.slice (some (a.add (l*P.cellsOf e))) (c - l) (m - l)))
     else none
    |none=>none
   |none=>none
  |none=>none
 |_,_=>none
def mP (P:Program) (eq:TypeId->Value->Value->Option Bool) (xs ys:List Value):List Field->Option Bool
 |[]=>some true
 |f::a=>
  if f.name="_" then mP P eq xs ys a else
  match apart P f.type xs f.offset,apart P f.type ys f.offset with
  |some x,some y=>match eq f.type x y with
   |some true=>mP P eq xs ys a
   |some false=>some false
   |none=>none
  |_,_=>none
def rT (P:Program) (eq:TypeId->Value->Value->Option Bool) (e:TypeId) (xs ys:List Value):List Nat->Option Bool
 |[]=>some true
 |i::is=>
  match apart P e xs (i*P.cellsOf e),apart P e ys (i*P.cellsOf e) with
  |some x,some y=>match eq e x y with
   |some true=>rT P eq e xs ys is
   |some false=>some false
   |none=>none
  |_,_=>none
def zF (P:Program):Nat->TypeId->Value->Value->Option Bool
 |0,_,_,_=>none
 |d+1,t,x,y=>
  match P.underlying t,x,y with
  |some .bool,.bool a,.bool b=>some (a==b)
  |some (.int _),.int k a,.int i b=>if k=i then some (a==b) else none
  |some .string,.string a,.string b=>some (a==b)
  |some (.pointer _),.pointer none,.pointer b=>some b.isNone
  |some (.pointer _),.pointer (some _),.pointer none=>some false
  |some (.interface _),.nilIface,.nilIface=>some true
  |some (.interface _),.nilIface,.iface _ _=>some false
  |some (.interface _),.iface _ _,.nilIface=>some false
  |some (.struct g),.agg c,.agg f=>if P.stoodInHeld t then none else mP P (zF P d) c.toList f.toList g.toList
  |some (.array n e),.agg c,.agg f=>if(P.info? e).isSome then rT P (zF P d) e c.toList f.toList (List.range n) else none
  |some (.slice _),.slice none _ _,.slice b _ _=>some b.isNone
  |some (.slice _),.slice (some _) _ _,.slice none _ _=>some false
  |some (.map _ _),.map none,.map b=>some b.isNone
  |some (.map _ _),.map (some _),.map none=>some false
  |some (.func _ _ _),.nilFunc,.nilFunc=>some true
  |some (.func _ _ _),.nilFunc,.func _ _ _=>some false
  |some (.func _ _ _),.func _ _ _,.nilFunc=>some false
  |_,_,_=>none
def isConst:Operand->Bool
 |.const _=>true
 |_=>false
def G4 (P:Program) (t:TypeId) (x y:Operand) (a b:Value):Bool:=
 match a,b with
 |.nilIface,.nilIface=>isConst x||isConst y
 |.agg _,.agg _=> !P.eqGuardType P.depth t
 |_,_=>true
def aG2 (op:BinOp) (x y:Int):Option Bool:=
 match op with
 |.eql=>some (x==y)
 |.neq=>some (x !=y)
 |.lss=>some (decide (x<y))
 |.leq=>some (decide (x<=y))
 |.gtr=>some (decide (x>y))
 |.geq=>some (decide (x>=y))
 |_=>none
def Je (op:BinOp) (k:IntKind) (x y:Int):Option Value:=
 if y<0 then none else
 match op with
 |.shl=>some (.int k (k.wrap (x*2^(min y.toNat k.bits))))
 |.shr=>some (.int k (x.fdiv (2^(min y.toNat k.bits))))
 |_=>none
def Mp (op:BinOp) (k:IntKind) (x y:Int):Option Value:=
 match op with
 |.add=>some (.int k (k.wrap (x+y)))
 |.sub=>some (.int k (k.wrap (x - y)))
 |.mul=>some (.int k (k.wrap (x*y)))
 |.quo=>if y=0 then none else some (.int k (k.wrap (x.tdiv y)))
 |.rem=>if y=0 then none else some (.int k (x.tmod y))
 |.eql|.neq|.lss|.leq|.gtr|.geq=>(aG2 op x y).map .bool
 |.shl|.shr=>Je op k x y
 |.and=>some (.int k (k.wrap (BitVec.ofInt k.bits x&&&BitVec.ofInt k.bits y).toNat))
 |.or=>some (.int k (k.wrap (BitVec.ofInt k.bits x|||BitVec.ofInt k.bits y).toNat))
 |.xor=>some (.int k (k.wrap (BitVec.ofInt k.bits x^^^BitVec.ofInt k.bits y).toNat))
 |.andNot=>some (.int k (k.wrap (BitVec.ofInt k.bits x&&&~~~BitVec.ofInt k.bits y).toNat))
def xz (op:BinOp) (x y:ByteArray):Option Value:=
 match op with
 |.add=>if x.size+y.size<=2^62 then some (.string (x++y)) else none
 |.eql=>some (.bool (x.toList==y.toList))
 |.neq=>some (.bool !(x.toList==y.toList))
 |.lss=>some (.bool (Op.bytesLess x.toList y.toList))
 |_=>none
def Uj (P:Program) (op:BinOp) (t:TypeId) (x y:Operand) (a b:Value):Option Value:=
 match a,b with
 |.int k m,.int c n=>if k=c then Mp op k m n else Je op k m n
 |.string m,.string n=>xz op m n
 |a,b=>
  match op with
  |.eql=>if G4 P t x y a b then(zF P 10000 t a b).map .bool else none
  |.neq=>if G4 P t x y a b then(zF P 10000 t a b).map fun e=> .bool !e else none
  |_=>none
def gO (P:Program) (b:Operand->Value):Op->Option (oS×(Nat->Value))
 |.alloc e=>(zeroOf P e).map fun z=>(.cells z e (0,0) true,fun i=> .pointer (some ⟨i,0,none⟩))
 |.box e x=>(iK (b x)).map fun l=>(.cells l e (0,0) true,fun i=> .pointer (some ⟨i,0,none⟩))
 |.buildSlice t len a=>
  match P.underlying t with
  |some (.slice e)=>
   match zeroOf P e with
   |some z=>
    if len*P.cellsOf e<=2^24 then
     (D9 (fun i=>some (i*P.cellsOf e,P.cellsOf e)) (dY z len) (a.toList.map fun p=>(p.1,b p.2))).map fun l=>
      (.cells l e (0,0) true,fun i=> .slice (some ⟨i,0,none⟩) len len)
    else none
   |none=>none
  |_=>none
 |.makeSlice t l c=>match P.underlying t,b l,b c with
  |some (.slice e),.int _ l,.int _ c=>
   match zeroOf P e with
   |some z=>
    if 0<=l/\l<=c/\c<=2^40/\P.bytesOf e*c<=2^47 then
     some (.cells (dY z c.toNat) e (0,0) true,fun i=> .slice (some ⟨i,0,none⟩) l.toNat c.toNat)
    else none
   |none=>none
  |_,_,_=>none
 |.makeMap t r=>match r with
  |none=>some (.map [] 0,fun i=> .map (some i))
  |some x=>match P.underlying t,b x with
   |some (.map _ _),.int _ _=>some (.map [] 0,fun i=> .map (some i))
   |_,_=>none
 |_=>none
def Ge (P:Program) (t:TypeId):Option TypeId:=
 match P.underlying t with
 |some (.map a elem)=>match P.underlying a with
  |some (.int _)=>some elem
  |_=>none
 |_=>none
def wP (k:IntKind) (n:Int):List (Value×Value×Nat)->Nat->Option (Option (Nat×Value))
 |[],_=>some none
 |(.int j m,v,_)::a,i=>if k=j then(if n=m then some (some (i,v)) else wP k n a (i+1)) else none
 |_::_,_=>none
def zeroV (P:Program) (t:TypeId):Option Value:=((P.info? t).bind (·.zero)).bind fun z=>if dZ z then some z else none
def X9 (h:AH):Value->Option (List (Value×Value×Nat))
 |.map none=>some []
 |.map (some r)=>match h.get r with
  |some (.map a _)=>some a
  |_=>none
 |_=>none
def yB (P:Program) (h:AH) (t:TypeId) (x ix:Value) (ok:Bool):Option Value:=
 match Ge P t,X9 h x,ix with
 |some e,some a,.int k n=>match wP k n a 0 with
  |some (some (_,v))=>some (if ok then .tuple ⟨[v,.bool true]⟩ else v)
  |some none=>(zeroV P e).map fun z=>if ok then .tuple ⟨[z,.bool false]⟩ else z
  |none=>none
 |_,_,_=>none
def aAx (k:IntKind) (n:Int) (v:Value) (es:List (Value×Value×Nat)) (a:Nat):Option oS:=
 match wP k n es 0 with
 |some (some (i,_))=>some (.map (es.modify i fun e=>(.int k n,v,e.2.2)) a)
 |some none=>some (.map (es++[(.int k n,v,a)]) (a+1))
 |none=>none
def E2 (P:Program) (h:AH) (t:TypeId) (m b v:Value):Option AH:=
 match Ge P t,m,b with
 |some _,.map (some r),.int k n=>if r<h.base then none else match h.get r with
  |some (.map c a)=>(aAx k n v c a).map fun o=>h.set r (some o)
  |_=>none
 |_,_,_=>none
def D5 (P:Program) (h:AH) (t:TypeId) (m c:Value):Option AH:=
 match Ge P t,m,c with
 |some _,.map none,.int _ _=>some h
 |some _,.map (some r),.int k n=>if r<h.base then none else match h.get r with
  |some (.map b a)=>match wP k n b 0 with
   |some (some (i,_))=>some (h.set r (some (.map (b.eraseIdx i) a)))
   |some none=>some (h.set r (some (.map b a)))
   |none=>none
  |_=>none
 |_,_,_=>none
def byteOf:Value->Option UInt8
 |.int .u8 n=>some (UInt8.ofNat n.toNat)
 |_=>none
def zQ:List Value->Option (List UInt8)
 |[]=>some []
 |v::l=>match byteOf v,zQ l with
  |some b,some r=>some (b::r)
  |_,_=>none
def strOf (h:AH):Value->Option Value
 |.slice none _ _=>some (.string .empty)
 |.slice (some a) n _=>if n=0 then some (.string .empty) else((cJ h a n).bind zQ).map fun l=> .string ⟨⟨l⟩⟩
 |_=>none
def bY (P:Program) (g:Operand->Value) (h:AH):Op->Option Value
 |.move x=>some (g x)
 |.assign x=>some (g x)
 |.pick c a b=>match g c with
  |.bool t=>some (if t then g a else g b)
  |_=>none
 |.build t l=>K7 P t (l.toList.map fun p=>(p.1,g p.2))
 |.load t a=>match g a with
  |.pointer (some a)=>wI P h t a
  |_=>none
 |.nilCheck x=>match g x with
  |.pointer (some a)=>some (.pointer (some a))
  |.func (.func f) a b=>some (.func (.func f) a b)
  |.func (.yield f) a b=>some (.func (.yield f) a b)
  |_=>none
 |.binOp op t x y _=>Uj P op t x y (g x) (g y)
 |.unOp op _ x=>match op,g x with
  |.neg,.int k n=>some (.int k (k.wrap (0 - n)))
  |.not,.bool b=>some (.bool !b)
  |_,_=>none
 |.convert s d x=>match P.underlying s,P.underlying d,g x with
  |some _,some (.int k),.int _ n=>some (.int k (k.wrap n))
  |some .string,some .string,.string z=>some (.string z)
  |some (.slice e),some .string,v=>(match P.underlying e with
   |some (.int .u8)=>strOf h v
   |_=>none)
  |_,_,_=>none
 |.makeInterface t x=>match P.underlying t with
  |some (.interface _)=>none
  |some _=>some (.iface t (g x))
  |none=>none
 |.makeFunc q first j=>match q with
  |.func f=>some (.func (.func f) (first.map g) (j.map g))
  |_=>none
 |.slice t x u r A=>uW P h t (g x) (u.map g) (r.map g) (A.map g)
 |.fieldAddr s x f=>match P.underlying s,g x with
  |some (.struct o),.pointer (some a)=>match o[f]? with
   |some fd=>if P.cellsOf fd.type=0 then none else some (.pointer (some (a.add fd.offset)))
   |none=>none
  |_,_=>none
 |.field t x f=>match P.underlying t,g x with
  |some (.struct o),.agg m=>match o[f]? with
   |some fd=>apart P fd.type m.toList fd.offset
   |none=>none
  |_,_=>none
 |.indexAddr t x i=>match P.underlying t,g x,g i with
  |some (.array n e),.pointer (some a),.int _ i=>if 0<=i/\i<n/\(P.info? e).isSome then some (.pointer (some (a.add (i.toNat*P.cellsOf e)))) else none
  |some (.slice e),.slice (some a) n _,.int _ i=>if 0<=i/\i<n/\(P.info? e).isSome/\a.spot=none then some (.pointer (some (a.add (i.toNat*P.cellsOf e)))) else none
  |_,_,_=>none
 |.index t x i=>match P.underlying t,g x,g i with
  |some (.array n e),.agg m,.int _ i=>if 0<=i/\i<n/\(P.info? e).isSome then apart P e m.toList (i.toNat*P.cellsOf e) else none
  |some .string,.string s,.int _ i=>if 0<=i then(s[i.toNat]?).map fun b=> .int .u8 b.toNat else none
  |_,_,_=>none
 |.extract t i=>match g t with
  |.tuple C=>C.toList[i]?
  |_=>none
 |.lookup t x ix ok=>yB P h t (g x) (g ix) ok
 |_=>none
inductive Kind where
 |Aa|alloc|store|call|other
 deriving DecidableEq
def kindOf:Op->Kind
 |.move _|.assign _|.pick ..|.build ..|.load ..|.nilCheck _|.binOp ..|.unOp ..|.convert ..|.makeInterface ..|.makeFunc ..|.slice ..|.fieldAddr ..
 |.field ..|.indexAddr ..|.index ..|.extract ..|.lookup ..=> .Aa
 |.alloc _|.box ..|.buildSlice ..|.makeSlice ..|.makeMap ..=> .alloc
 |.store ..|.mapUpdate ..=> .store
 |.call _=> .call
 |_=> .other
def gE (h:AH) (size n:Nat):Value->Option (List Value)
 |.slice none _ _=>if n=0 then some [] else none
 |.slice (some a) l _=>if n=0 then some [] else if n<=l then cJ h a (n*size) else none
 |.string s=>if n<=s.size then some ((s.extract 0 n).data.toList.map fun b=> .int .u8 b.toNat) else none
 |_=>none
def tG:Value->Option Nat
 |.slice _ n _=>some n
 |.string s=>some s.size
 |_=>none
def Ij (P:Program) (a:Array TypeId):Bool:=
 match(a[1]?).bind P.underlying with
 |some (.slice _)|some .string=>true
 |_=>false
def H8 (P:Program) (h:AH) (d:Array TypeId) (s x:Value):Option (Value×AH):=
 match(d[0]?).bind P.underlying,s,tG x with
 |some (.slice e),.slice g b f,some n=>
  if !Ij P d then none else
  match zeroOf P e,gE h (P.cellsOf e) n x with
  |some _,some new=>
   if !new.all eJ||new.length !=n*P.cellsOf e then none else
   if b+n<=f then
    match g with
    |none=>if n=0 then some (s,h) else none
    |some a=>if n=0 then some (s,h) else if a.spot.isSome then none else
     (dI h (a.add (b*P.cellsOf e)) new).map fun l=>(.slice g (b+n) f,l)
   else if(b+n)*(P.bytesOf e+1)<=2^46 then
    match g with
    |none=>if b=0 then some (.slice (some ⟨h.next,0,none⟩) n n,h.alloc (.cells new e (0,0) false)) else none
    |some a=>
     if a.spot=some 1 then(if b=0 then some (.slice (some ⟨h.next,0,none⟩) n n,h.alloc (.cells new e (0,0) false)) else none) else
     if a.spot=some 2 then
      (match h.get a.block with
      |some (.cells c j k _)=>
       if j=e/\h.base<=a.block/\k=(0,0)/\a.off<=c.length/\b=0/\f=0 then
        some (.slice (some ⟨h.next,0,none⟩) n n,(h.set a.block none).alloc (.cells new e (0,0) false))
       else none
      |_=>none) else
     match cJ h a (b*P.cellsOf e),h.get a.block with
     |some i,some (.cells c j k x)=>
      if !i.all eJ then none else
      if x then some (.slice (some ⟨h.next,0,none⟩) (b+n) (b+n),h.alloc (.cells (i++new) e (0,0) false))
      else if j=e/\h.base<=a.block/\k=(0,0)/\a.off+f*P.cellsOf e<=c.length then
       some (.slice (some ⟨h.next,0,none⟩) (b+n) (b+n),(h.set a.block none).alloc (.cells (i++new) e (0,0) false))
      else none
     |_,_=>none
   else none
  |_,_=>none
 |_,_,_=>none
def eP (P:Program) (h:AH) (b:Builtin) (f:Array TypeId) (args:List Value):Option (Value×AH):=
 match b,args with
 |.len,[x]=>match(f[0]?).bind P.underlying,x with
  |some .string,.string s=>some (.int .i64 s.size,h)
  |some (.array n _),_=>some (.int .i64 n,h)
  |some (.pointer e),_=>match P.underlying e with
   |some (.array n _)=>some (.int .i64 n,h)
   |_=>none
  |some (.slice _),.slice _ n _=>some (.int .i64 n,h)
  |some (.map _ _),x=>(X9 h x).map fun l=>(.int .i64 l.length,h)
  |_,_=>none
 |.append,[s,x]=>H8 P h f s x
 |.copy,[d,x]=>match(f[0]?).bind P.underlying,d,tG x with
  |some (.slice e),.slice i g _,some m=>
   if(P.info? e).isNone then none else
   match gE h (P.cellsOf e) (Nat.min m g) x with
   |some new=>match i with
    |none=>some (.int .i64 (Nat.min m g:Nat),h)
    |some a=>if Nat.min m g=0 then some (.int .i64 0,h) else(dI h a new).map fun j=>(.int .i64 (Nat.min m g:Nat),j)
   |none=>none
  |_,_,_=>none
 |.clear,[x]=>match(f[0]?).bind P.underlying,x with
  |some _,.slice none _ _=>some (.tuple #[],h)
  |some (.slice e),.slice (some a) n _=>
   if n=0 then some (.tuple #[],h) else
   match zeroOf P e with
   |some z=>(dI h a (dY z n)).map fun j=>(.tuple #[],j)
   |none=>none
  |_,_=>none
 |.delete,[m,k]=>match f[0]? with
  |some t=>(D5 P h t m k).map fun j=>(.tuple #[],j)
  |none=>none
 |.min,[.int k x,.int _ y]=>some (.int k (if y<x then y else x),h)
 |.max,[.int k x,.int _ y]=>some (.int k (if y>x then y else x),h)
 |.cap,[x]=>match(f[0]?).bind P.underlying,x with
  |some (.slice _),.slice none _ c=>some (.int .i64 c,h)
  |_,_=>none
 |_,_=>none
end
end Go.Ab
end
section
namespace Go.Ab
open Go.RowKit
def Ext (ρ ρ':iP):Prop:=∀i x,ρ i=some x->ρ' i=some x
theorem Ext.refl (ρ:iP):Ext ρ ρ:=fun _ _ h=>h
theorem Ext.trans {a b c:iP} (h:Ext a b) (k:Ext b c):Ext a c:=fun i x d=>k i x (h i x d)
theorem C8.mono {ρ ρ':iP} (h:Ext ρ ρ') {f g:Fn} (k:C8 ρ f g):C8 ρ' f g:=by
 cases f<;>simp only[C8] at k ⊢<;>try exact k
 obtain⟨b,s,a,c⟩:=k;exact⟨b,s,h _ _ a,c⟩
mutual
theorem aF.mono {ρ ρ':iP} (h:Ext ρ ρ'):∀(v v':Value),aF ρ v v'->aF ρ' v v'
 |.bool _,_,k=>by simp only[aF] at k ⊢;exact k
 |.int _ _,_,k=>by simp only[aF] at k ⊢;exact k
 |.float _ _,_,k=>by simp only[aF] at k ⊢;exact k
 |.complex _ _ _,_,k=>by simp only[aF] at k ⊢;exact k
 |.string _,_,k=>by simp only[aF] at k ⊢;exact k
 |.pointer none,_,k=>by simp only[aF] at k ⊢;exact k
 |.pointer (some _),_,k=>by simp only[aF] at k ⊢;obtain⟨b,s,d,c⟩:=k;exact⟨b,s,h _ _ d,c⟩
 |.slice none _ _,_,k=>by simp only[aF] at k ⊢;exact k
 |.slice (some ⟨_,_,some _⟩) _ _,_,k=>by
  simp only[aF] at k ⊢;obtain⟨j,l,o,g,m,q,r⟩:=k;exact⟨j,l,o,g,m,fun x=>let⟨b,s,d,c⟩:=q x;⟨b,s,h _ _ d,c⟩,r⟩
 |.slice (some ⟨_,_,none⟩) _ _,_,k=>by simp only[aF] at k ⊢;obtain⟨b,s,g,d,c⟩:=k;exact⟨b,s,g,h _ _ d,c⟩
 |.map none,_,k=>by simp only[aF] at k ⊢;exact k
 |.map (some _),_,k=>by simp only[aF] at k ⊢;obtain⟨b,s,d,c⟩:=k;exact⟨b,s,h _ _ d,c⟩
 |.chan none,_,_=>by simp only[aF]
 |.chan (some _),_,k=>by simp only[aF] at k
 |.func _ p e,_,k=>by
  simp only[aF] at k ⊢;obtain⟨i,f,a,j,l,m,c⟩:=k;exact⟨i,f,a,j.mono h,lG.mono h p f l,lG.mono h e a m,c⟩
 |.nilFunc,_,k=>by simp only[aF] at k ⊢;exact k
 |.iface _ v,_,k=>by simp only[aF] at k ⊢;obtain⟨u,t,c⟩:=k;exact⟨u,aF.mono h v u t,c⟩
 |.nilIface,_,k=>by simp only[aF] at k ⊢;exact k
 |.agg e,_,k=>by simp only[aF] at k ⊢;obtain⟨a,n,c⟩:=k;exact⟨a,lG.mono h e a n,c⟩
 |.tuple e,_,k=>by simp only[aF] at k ⊢;obtain⟨a,n,c⟩:=k;exact⟨a,lG.mono h e a n,c⟩
theorem lG.mono {ρ ρ':iP} (h:Ext ρ ρ'):∀(v v':Array Value),lG ρ v v'->lG ρ' v v'
 |⟨l⟩,a,k=>by simp only[lG] at k ⊢;exact aU.mono h l a.toList k
theorem aU.mono {ρ ρ':iP} (h:Ext ρ ρ'):∀(l l':List Value),aU ρ l l'->aU ρ' l l'
 |[],_,k=>by simp only[aU] at k ⊢;exact k
 |v::l,_,k=>by
  simp only[aU] at k ⊢;obtain⟨b,a,c,d,e⟩:=k;exact⟨b,a,aF.mono h v b c,aU.mono h l a d,e⟩
end
mutual
theorem gY {ρ:iP}:∀(v:Value),dZ v=true->aF ρ v v
 |.bool _,_=>by simp only[aF]
 |.int _ _,_=>by simp only[aF]
 |.float _ _,h=>by simp[dZ] at h
 |.complex _ _ _,h=>by simp[dZ] at h
 |.string _,_=>by simp only[aF]
 |.pointer none,_=>by simp only[aF]
 |.pointer (some _),h=>by simp[dZ] at h
 |.slice none _ _,_=>by simp only[aF]
 |.slice (some _) _ _,h=>by simp[dZ] at h
 |.map none,_=>by simp only[aF]
 |.map (some _),h=>by simp[dZ] at h
 |.chan _,h=>by simp[dZ] at h
 |.func _ _ _,h=>by simp[dZ] at h
 |.nilFunc,_=>by simp only[aF]
 |.iface _ v,h=>by simp only[aF];simp only[dZ] at h;exact⟨v,gY v h,rfl⟩
 |.nilIface,_=>by simp only[aF]
 |.agg a,h=>by simp only[aF];simp only[dZ] at h;exact⟨a,I0 a h,rfl⟩
 |.tuple a,h=>by simp only[aF];simp only[dZ] at h;exact⟨a,I0 a h,rfl⟩
theorem I0 {ρ:iP}:∀(v:Array Value),uY v=true->lG ρ v v
 |⟨l⟩,h=>by simp only[uY] at h;simp only[lG];exact qH l h
theorem qH {ρ:iP}:∀(l:List Value),nY l=true->aU ρ l l
 |[],_=>by simp only[aU]
 |v::l,h=>by
  simp only[nY,Bool.and_eq_true] at h;simp only[aU];exact⟨v,l,gY v h.1,qH l h.2,rfl⟩
end
theorem jB {ρ:iP} {a b:Array Value}:lG ρ a b↔aU ρ a.toList b.toList:=by cases a;simp only[lG]
section lists
variable {ρ:iP}
theorem aU.nil:aU ρ [] []:=by simp only[aU]
theorem aU.cons {v v':Value} {l l':List Value} (h:aF ρ v v') (k:aU ρ l l'):aU ρ (v::l) (v'::l'):=by
 simp only[aU];grind
theorem aU.Sg {v v':Value} {l l':List Value}:aU ρ (v::l) (v'::l')↔aF ρ v v'/\aU ρ l l':=by
 constructor;intro h;simp only[aU] at h;grind;exact fun h=>aU.cons h.1 h.2
theorem aU.length:∀{l l':List Value},aU ρ l l'->l'.length=l.length
 |[],l',h=>by simp only[aU] at h;simp[h]
 |v::l,l',h=>by
  simp only[aU] at h;obtain⟨c,b,_,a,rfl⟩:=h;simp[aU.length a]
theorem aU.get:∀{l l':List Value} {i:Nat} {v:Value},aU ρ l l'->l[i]?=some v->∃a,l'[i]?=some a/\aF ρ v a
 |[],l',i,v,h,k=>by simp at k
 |u::l,l',0,v,h,k=>by
  simp only[aU] at h;grind
 |u::l,l',i+1,v,h,k=>by
  simp only[aU] at h;obtain⟨a,c,_,b,rfl⟩:=h;simp at k;simpa using aU.get b k
theorem aU.get_none {l l':List Value} {i:Nat} (h:aU ρ l l') (k:l[i]?=none):l'[i]?=none:=by
 rw[List.getElem?_eq_none_iff] at k ⊢;rw[h.length];exact k
theorem aU.getD {l l':List Value} (i:Nat) (h:aU ρ l l'):aF ρ (l.getD i undef) (l'.getD i undef):=by
 cases k:l[i]? with
 |none=>
  have a:=h.get_none k;rw[List.getD_eq_getElem?_getD,List.getD_eq_getElem?_getD,k,a];exact gY undef (by simp[undef,dZ,uY,nY])
 |some v=>
  obtain⟨d,c,b⟩:=h.get k;grind
theorem aU.append:∀{l l' m a:List Value},aU ρ l l'->aU ρ m a->aU ρ (l++m) (l'++a)
 |[],l',m,a,h,k=>by simp only[aU] at h;subst h;exact k
 |v::l,l',m,a,h,k=>by
  simp only[aU] at h;obtain⟨e,d,b,c,rfl⟩:=h;exact aU.cons b (aU.append c k)
theorem aU.take:∀{l l':List Value} (n:Nat),aU ρ l l'->aU ρ (l.take n) (l'.take n)
 |_,_,0,_=>by simp[aU.nil]
 |[],l',n+1,h=>by simp only[aU] at h;subst h;exact aU.nil
 |v::l,l',n+1,h=>by
  simp only[aU] at h;obtain⟨d,c,a,b,rfl⟩:=h;exact aU.cons a (aU.take n b)
theorem aU.drop:∀{l l':List Value} (n:Nat),aU ρ l l'->aU ρ (l.drop n) (l'.drop n)
 |_,_,0,h=>by simpa using h
 |[],l',n+1,h=>by simp only[aU] at h;subst h;exact aU.nil
 |v::l,l',n+1,h=>by
  simp only[aU] at h;obtain⟨d,c,b,a,rfl⟩:=h;exact aU.drop n a
theorem aU.set:∀{l l':List Value} (i:Nat) {v v':Value},aU ρ l l'->aF ρ v v'->aU ρ (l.set i v) (l'.set i v')
 |[],l',i,v,v',h,k=>by simp only[aU] at h;subst h;exact aU.nil
 |u::l,l',0,v,v',h,k=>by
  simp only[aU] at h;obtain⟨d,c,b,a,rfl⟩:=h;exact aU.cons k a
 |u::l,l',i+1,v,v',h,k=>by
  simp only[aU] at h;obtain⟨d,c,b,a,rfl⟩:=h;exact aU.cons b (aU.set i a k)
theorem aU.cF {l l' m a:List Value} (i:Nat) (h:aU ρ l l') (k:aU ρ m a):aU ρ (cF l i m) (cF l' i a):=by
 unfold Ab.cF;rw[k.length];exact((h.take i).append k).append (h.drop _)
theorem aU.replicate {v v':Value} (n:Nat) (h:aF ρ v v'):aU ρ (List.replicate n v) (List.replicate n v'):=by
 induction n with
 |zero=>exact aU.nil
 |succ n a=>exact aU.cons h a
theorem aU.Cp {α:Type} {f g:α->Value} (h:∀x,aF ρ (f x) (g x)):∀l:List α,aU ρ (l.map f) (l.map g)
 |[]=>aU.nil
 |x::l=>aU.cons (h x) (aU.Cp h l)
end lists
section Mf
variable {ρ:iP}
theorem aF.cells {v v':Value} (h:aF ρ v v') (k:vS v=false):aU ρ v.cells.toList v'.cells.toList:=by
 cases v with
 |agg n=>simp only[aF] at h;obtain⟨g,j,rfl⟩:=h;exact jB.1 j
 |chan r=>simp[vS] at k
 |pointer a=>
  have d:=h;cases a with
  |none=>simp only[aF] at h;subst h;exact aU.cons d aU.nil
  |some a=>simp only[aF] at h;obtain⟨b,s,e,rfl⟩:=h;exact aU.cons d aU.nil
 |slice a l c=>
  have d:=h;cases a with
  |none=>simp only[aF] at h;subst h;exact aU.cons d aU.nil
  |some a=>
   obtain⟨i,o,sp⟩:=a;cases sp with
   |none=>simp only[aF] at h;obtain⟨b,s,f,e,_,_,rfl⟩:=h;exact aU.cons d aU.nil
   |some _=>simp only[aF] at h;obtain⟨_,_,m,f,_,_,rfl⟩:=h;exact aU.cons d aU.nil
 |map r=>
  have d:=h;cases r with
  |none=>simp only[aF] at h;subst h;exact aU.cons d aU.nil
  |some a=>simp only[aF] at h;obtain⟨b,s,e,rfl⟩:=h;exact aU.cons d aU.nil
 |func p a b=>have d:=h;simp only[aF] at h;obtain⟨_,_,_,_,_,_,rfl⟩:=h;exact aU.cons d aU.nil
 |iface t v=>have d:=h;simp only[aF] at h;obtain⟨_,_,rfl⟩:=h;exact aU.cons d aU.nil
 |tuple t=>have d:=h;simp only[aF] at h;obtain⟨_,_,rfl⟩:=h;exact aU.cons d aU.nil
 |_=>have d:=h;simp only[aF] at h;subst h;exact aU.cons d aU.nil
theorem aF.Qm {v v':Value} (h:aF ρ v v') (hc:eJ v=true):v'.oneCell'=true:=by
 cases v with
 |agg g=>simp[eJ] at hc
 |chan r=>simp[eJ] at hc
 |tuple t=>simp[eJ] at hc
 |pointer a=>cases a with
  |none=>simp only[aF] at h;subst h;rfl
  |some a=>simp only[aF] at h;obtain⟨b,s,d,rfl⟩:=h;rfl
 |slice a l c=>cases a with
  |none=>simp only[aF] at h;subst h;rfl
  |some a=>
   obtain⟨i,o,sp⟩:=a
   cases sp with
   |none=>simp only[aF] at h;obtain⟨b,s,e,d,_,_,rfl⟩:=h;rfl
   |some _=>simp only[aF] at h;obtain⟨_,_,f,e,_,_,rfl⟩:=h;rfl
 |map r=>cases r with
  |none=>simp only[aF] at h;subst h;rfl
  |some a=>simp only[aF] at h;obtain⟨b,s,d,rfl⟩:=h;rfl
 |func j a b=>simp only[aF] at h;obtain⟨_,_,_,_,_,_,rfl⟩:=h;rfl
 |iface t v=>simp only[aF] at h;obtain⟨_,_,rfl⟩:=h;rfl
 |_=>simp only[aF] at h;subst h;rfl
end Mf
def lA (ρ:iP):List (Value×Value×Nat)->List MapEntry->Prop
 |[],a=>a=[]
 |(k,v,n)::l,a=>∃b c t,aF ρ k b/\aF ρ v c/\lA ρ l t/\a={key:=b,val:=c,born:=n}::t
theorem lA.mono {ρ ρ':iP} (h:Ext ρ ρ'):∀(l:List (Value×Value×Nat)) (es:List MapEntry),lA ρ l es->lA ρ' l es
 |[],_,k=>k
 |(_,_,_)::l,_,⟨e,f,t,a,b,c,d⟩=>⟨e,f,t,aF.mono h _ _ a,aF.mono h _ _ b,lA.mono h l t c,d⟩
def tZ (P:Program) (ρ:iP) (s:Nat×Nat):oS->Obj->Prop
 |.cells c e n x,o=>∃i:Array Value,o= .cells i e n/\aU ρ c ((i.toList.drop s.2).take c.length)/\s.2+c.length+s.1*P.cellsOf e<=i.size/\(x=true->s.1=0/\s.2=0)
 |.loop st iX fn tmps params assign body d,o=>∃a k p,aU ρ tmps a/\ρ d=some (k,p)/\
   o= .loop {state:=st,pending:=iX,fn:=fn,tmps:=⟨a⟩,params:=params,assign:=assign,body:=body,defers:=k}
 |.marks here,o=>o= .deferred (if here then some [] else none)
 |.map l f,o=>∃g,lA ρ l g/\o= .map ⟨g⟩ f
 |.mapIter m since seen last,o=>∃j,(match m with|none=>j=none|some r=>∃b s,ρ r=some (b,s)/\j=some b)/\o= .mapIter j since ⟨seen⟩ last
 |.Z8 s pos,o=>o= .stringIter s pos
theorem tZ.mono {P:Program} {ρ ρ':iP} (h:Ext ρ ρ') {s:Nat×Nat} {b:oS} {o:Obj} (k:tZ P ρ s b o):tZ P ρ' s b o:=by
 cases b with
 |cells c e D x=>obtain⟨n,a,f,i⟩:=k;exact⟨n,a,aU.mono h _ _ f,i⟩
 |loop st iX C l params assign j d=>obtain⟨z,q,y,a,f,i⟩:=k;exact⟨z,q,y,aU.mono h _ _ a,h _ _ f,i⟩
 |marks _=>exact k
 |map A c=>obtain⟨g,a,f⟩:=k;exact⟨g,lA.mono h _ _ a,f⟩
 |mapIter m _ _ _=>
  obtain⟨v,a,f⟩:=k;refine⟨v,?_,f⟩;cases m with
  |none=>exact a
  |some r=>obtain⟨b,s,t,u⟩:=a;exact⟨b,s,h _ _ t,u⟩
 |Z8 s p=>exact k
structure Inv (P:Program) (B:Nat) (ρ:iP) (h:AH) (w:World):Prop where
 nD:∀i o,h.get i=some o->∀b s,ρ i=some (b,s)->∃o',w.heap[b]?=some o'/\tZ P ρ s o o'
 inj:∀i j b si sj,h.base<=i->h.base<=j->(h.get i).isSome->(h.get j).isSome->ρ i=some (b,si)->ρ j=some (b,sj)->i=j
 low:∀i b s,h.base<=i->(h.get i).isSome->ρ i=some (b,s)->B<=b
 old:∀i b s,i<h.base->ρ i=some (b,s)->b<B
 fresh:∀i,h.next<=i->ρ i=none
 iE:∀i,h.next<=i->h.get i=none
 qR:∀g,g<P.globals.size->ρ g=some (g,(0,0))
 size:B<=w.heap.size
 bn:h.base<=h.next
structure lJ (P:Program) (B:Nat) (ρ:iP) (h:AH) (w:World) (ρ':iP) (h':AH) (w':World):Prop where
 ext:Ext ρ ρ'
 inv:Inv P B ρ' h' w'
 un:∀i,i<h.next->ρ i=none->ρ' i=none
 nQ:∀i,i<h.next->ρ i=none->h'.get i=h.get i
 stay:∀i,i<h.next->h.get i=none->h'.get i=none
 frame:∀b,b<w.heap.size->(∀i s,h.base<=i->(h.get i).isSome->ρ i≠some (b,s))->w'.heap[b]?=w.heap[b]?
 range:∀i b s,h.base<=i->(h'.get i).isSome->ρ' i=some (b,s)->b<w.heap.size->∃j s',h.base<=j/\(h.get j).isSome/\ρ j=some (b,s')
 base:h'.base=h.base
 wJ:∀i,i<h.base->h'.get i=h.get i
 next:h.next<=h'.next
 size:w.heap.size<=w'.heap.size
 os:w'.os=w.os
 out:w'.output=w.output
 tape:w'.tape=w.tape
theorem lJ.refl {P:Program} {B:Nat} {ρ:iP} {h:AH} {w:World} (d:Inv P B ρ h w):lJ P B ρ h w ρ h w where
 ext:=Ext.refl ρ
 inv:=d
 un:=fun _ _ h=>h
 nQ:=fun _ _ _=>rfl
 stay:=fun _ _ e=>e
 frame:=fun _ _ _=>rfl
 range:=fun i _ s a b c _=>⟨i,s,a,b,c⟩
 base:=rfl
 wJ:=fun _ _=>rfl
 next:=Nat.le_refl _
 size:=Nat.le_refl _
 os:=rfl
 out:=rfl
 tape:=rfl
theorem lJ.trans {P:Program} {B:Nat} {ρ ρ1 ρ2:iP} {h o p:AH} {w w1 w2:World} (a:lJ P B ρ h w ρ1 o w1) (b:lJ P B ρ1 o w1 ρ2 p w2):lJ P B ρ h w ρ2 p w2 where
 ext:=a.ext.trans b.ext
 inv:=b.inv
 un:=fun i c d=>b.un i (Nat.lt_of_lt_of_le c a.next) (a.un i c d)
 nQ:=fun i c d=>(b.nQ i (Nat.lt_of_lt_of_le c a.next) (a.un i c d)).trans (a.nQ i c d)
 stay:=fun i c d=>b.stay i (Nat.lt_of_lt_of_le c a.next) (a.stay i c d)
 frame:=fun x f d=>by
  refine(b.frame x (Nat.lt_of_lt_of_le f a.size) ?_).trans (a.frame x f d);intro i s l n m;rw[a.base] at l;obtain⟨j,q,e,g,k⟩:=a.range i x s l n m f;grind
 range:=fun i x s l n m f=>by
  obtain⟨j,q,e,g,k⟩:=b.range i x s (by rw[a.base];exact l) n m (Nat.lt_of_lt_of_le f a.size);rw[a.base] at e;exact a.range j x q e g k f
 base:=b.base.trans a.base
 wJ:=fun i c=>(b.wJ i (by rw[a.base];exact c)).trans (a.wJ i c)
 next:=Nat.le_trans a.next b.next
 size:=Nat.le_trans a.size b.size
 os:=b.os.trans a.os
 out:=b.out.trans a.out
 tape:=b.tape.trans a.tape
theorem lJ.below {P:Program} {B:Nat} {ρ ρ':iP} {h h':AH} {w w':World} (a:Inv P B ρ h w) (e:lJ P B ρ h w ρ' h' w'):Below B w w':=
 ⟨e.os,e.tape,e.out,e.size,fun k b=>e.frame k (Nat.lt_of_lt_of_le b a.size) fun i s c f d=>absurd (a.low i k s c f d) (Nat.not_le.2 b)⟩
end Go.Ab
end
namespace Go.Ab
open Go.RowKit
section
variable {P:Program} {B:Nat} {ρ:iP} {h:AH} {w:World}
def vH (ρ:iP) (i:Nat) (x:Nat×(Nat×Nat)):iP:=fun j=>if j=i then some x else ρ j
theorem bT {i:Nat} {x:Nat×(Nat×Nat)}:vH ρ i x i=some x:=by simp[vH]
theorem cB {i j:Nat} {x:Nat×(Nat×Nat)} (h:j≠i):vH ρ i x j=ρ j:=by simp[vH,h]
theorem Ext.vH {i:Nat} {x:Nat×(Nat×Nat)} (h:ρ i=none):Ext ρ (vH ρ i x):=by
 intro j y a;by_cases e:j=i;grind;rw[cB e];exact a
theorem Bj (c:Inv P B ρ h w) {o:oS} {o':Obj} {s:Nat×Nat} {w':World} (hb:tZ P (vH ρ h.next (w.heap.size,s)) s o o')
  (l:w'.heap=w.heap.push o') (A:w'.os=w.os) (u:w'.output=w.output) (q:w'.tape=w.tape):
  lJ P B ρ h w (vH ρ h.next (w.heap.size,s)) (h.alloc o) w':=by
 have k:Ext ρ (vH ρ h.next (w.heap.size,s)):=Ext.vH (c.fresh _ (Nat.le_refl _))
 have a:∀j,(h.alloc o).get j=if j=h.next then some o else h.get j:=fun j=>AH.wR c.bn
 have J:∀i b F,ρ i=some (b,F)->i<h.next:=fun i b F m=>by
  rcases Nat.lt_or_ge i h.next with h1|h1
  exact h1;rw[c.fresh i h1] at m;cases m
 refine {ext:=k,inv:=?_,un:=?_,nQ:=?_,stay:=fun j N r=>by grind,frame:=?_,range:=?_,base:=rfl,wJ:=?_,next:=by simp,size:=by rw[l];simp,os:=A,out:=u,tape:=q}
 .refine {nD:=?_,inj:=?_,low:=?_,old:=?_,fresh:=?_,iE:=?_,qR:=?_,size:=by rw[l];simp;exact Nat.le_succ_of_le c.size,bn:=Nat.le_succ_of_le c.bn}
  .intro i K p b s1 m;rw[a] at p;by_cases e:i=h.next
   .subst e;rw[aKj rfl] at p;cases p;rw[bT] at m;grind
   .rw[aKi e] at p;rw[cB e] at m;obtain⟨C,D,I⟩:=c.nD i K p b s1 m;refine⟨C,?_,I.mono k⟩;grind
  .intro i j b G H f x gi t d v;rw[a] at gi t;by_cases e:i=h.next
   .by_cases n:j=h.next
    .rw[e,n]
    .rw[aKi n] at t;rw[cB n] at v;obtain⟨M,z⟩:=Option.isSome_iff_exists.1 t;obtain⟨C,D,_⟩:=c.nD j M z b H v;subst e;rw[bT] at d;grind
   .rw[aKi e] at gi;rw[cB e] at d;by_cases n:j=h.next
    .obtain⟨L,y⟩:=Option.isSome_iff_exists.1 gi;obtain⟨C,D,_⟩:=c.nD i L y b G d;subst n;rw[bT] at v;grind
    .rw[aKi n] at t;rw[cB n] at v;exact c.inj i j b G H f x gi t d v
  .intro i b s1 f gi d;rw[a] at gi;by_cases e:i=h.next
   .subst e;rw[bT] at d;cases d;exact c.size
   .rw[aKi e] at gi;rw[cB e] at d;exact c.low i b s1 f gi d
  .intro i b s1 f d;have e:i≠h.next:=fun e=>by have:=c.bn;simp at f;omega
   rw[cB e] at d
   exact c.old i b s1 f d
  .intro i r;simp at r;rw[cB (by omega)];exact c.fresh i (by omega)
  .intro i r;simp at r;rw[a,aab];exact c.iE i (by omega)
  .intro g p;have:=c.qR g p;exact k _ _ this
 .intro i r m;rw[cB (by omega)];exact m
 .grind
 .grind
 .intro i b s1 f gi d E;rw[a] at gi;by_cases e:i=h.next
  .subst e;rw[bT] at d;cases d;omega
  .rw[aKi e] at gi;rw[cB e] at d;grind
 .intro i r;rw[a,aKi (by have:=c.bn;omega)]
theorem xW (d:Inv P B ρ h w) {i b:Nat} {s:Nat×Nat} {E o:oS} {o':Obj} {w':World} (p:h.base<=i) (t:h.get i=some E) (A:ρ i=some (b,s)) (hb:tZ P ρ s o o')
  (f:w'.heap=w.heap.setIfInBounds b o') (z:w'.os=w.os) (u:w'.output=w.output) (q:w'.tape=w.tape):
  lJ P B ρ h w ρ (h.set i (some o)) w':=by
 have n:∀j,(h.set i (some o)).get j=if j=i then some o else h.get j:=fun j=>AH.jR p
 have c:∀j,((h.set i (some o)).get j).isSome->(h.get j).isSome:=fun j a=>by
  grind
 obtain⟨Q,y,_⟩:=d.nD i E t b s A
 have H:b<w.heap.size:=(Array.getElem?_eq_some_iff.1 y).1
 have I:i<h.next:=by
  rcases Nat.lt_or_ge i h.next with h1|h1
  exact h1;rw[d.iE i h1] at t;cases t
 refine {ext:=Ext.refl _,inv:=?_,un:=fun _ _ h=>h,nQ:=?_,stay:=fun j a O=>by grind,frame:=?_,range:=?_,base:=AH.Uk,wJ:=?_,next:=by simp,size:=by rw[f];simp,os:=z,out:=u,tape:=q}
 .refine {nD:=?_,inj:=?_,low:=?_,old:=?_,fresh:=?_,iE:=?_,qR:=d.qR,size:=by rw[f];simp;exact d.size,bn:=by simp;exact d.bn}
  .intro j L m C l g;rw[n] at m;by_cases e:j=i
   .grind
   .rw[aKi e] at m;obtain⟨K,N,G⟩:=d.nD j L m C l g;refine⟨K,?_,G⟩;have J:b≠C:=by
     intro x;subst x;rcases Nat.lt_or_ge j h.base with v|v;have:=d.old j b l v g;have:=d.low i b s p (by rw[t];rfl) A;omega;exact e (d.inj j i b l s v p (by rw[m];rfl) (by rw[t];rfl) g A)
    grind
  .intro j k r l sk a D m F g M;simp at a D;exact d.inj j k r l sk a D (c j m) (c k F) g M
  .intro j r l a m g;simp at a;exact d.low j r l a (c j m) g
  .intro j r l a g;simp at a;exact d.old j r l a g
  .intro j a;simp at a;exact d.fresh j a
  .intro j a;simp at a;rw[n,aab];exact d.iE j a
 .grind
 .grind
 .grind
 grind
theorem T9 (d:Inv P B ρ h w) {i b:Nat} {s s':Nat×Nat} {O o:oS} {o':Obj} {w':World} (t:h.base<=i) (A:h.get i=some O) (K:ρ i=some (b,s)) (hb:tZ P (vH ρ h.next (b,s')) s' o o')
  (u:w'.heap=w.heap.setIfInBounds b o') (J:w'.os=w.os) (D:w'.output=w.output) (v:w'.tape=w.tape):
  lJ P B ρ h w (vH ρ h.next (b,s')) ((h.set i none).alloc o) w':=by
 have n:Ext ρ (vH ρ h.next (b,s')):=Ext.vH (d.fresh _ (Nat.le_refl _))
 have l:∀j,((h.set i none).alloc o).get j=if j=h.next then some o else if j=i then none else h.get j:=fun j=>by
  rw[AH.wR (by simp;exact d.bn),AH.jR t];simp
 obtain⟨Y,I,_⟩:=d.nD i O A b s K
 have R:b<w.heap.size:=(Array.getElem?_eq_some_iff.1 I).1
 have T:i<h.next:=by
  rcases Nat.lt_or_ge i h.next with h1|h1
  exact h1;rw[d.iE i h1] at A;cases A
 have F:=d.low i b s t (by rw[A];rfl) K
 have p:∀j x c,j≠h.next->((h.set i none).alloc o).get j≠none->ρ j=some (x,c)->(h.get j).isSome/\j≠i/\b≠x:=by
  intro j x c e m a;rw[l,aKi e] at m;by_cases z:j=i;grind;rw[aKi z] at m;have N:(h.get j).isSome:=by cases S:h.get j with|none=>exact absurd S m|some _=>rfl
  refine⟨N,z,?_⟩;intro G;subst G;rcases Nat.lt_or_ge j h.base with E|E;have:=d.old j b c E a;omega;exact z (d.inj j i b c s E t N (by rw[A];rfl) a K)
 refine {ext:=n,inv:=?_,un:=?_,nQ:=?_,stay:=fun j f M=>by grind,frame:=?_,range:=?_,base:=by simp,wJ:=?_,next:=by simp,size:=by rw[u];simp,os:=J,out:=D,tape:=v}
 .refine {nD:=?_,inj:=?_,low:=?_,old:=?_,fresh:=?_,iE:=?_,qR:=fun g H=>n _ _ (d.qR g H),size:=by grind,bn:=by simp;grind}
  .intro j V m x c a;by_cases e:j=h.next
   .subst e;rw[l,aKj rfl] at m;cases m;rw[bT] at a;grind
   .rw[cB e] at a;obtain⟨_,z,C⟩:=p j x c e (by rw[m];simp) a;rw[l,aKi e,aKi z] at m;obtain⟨U,X,Q⟩:=d.nD j V m x c a;exact⟨U,by grind,Q.mono n⟩
  .intro j k q c sk f L m W a y;simp at f L;by_cases e:j=h.next
   .by_cases r:k=h.next
    .rw[e,r]
    .rw[cB r] at y;obtain⟨_,_,C⟩:=p k q sk r (by grind) y;subst e;rw[bT] at a;grind
   .rw[cB e] at a;obtain⟨s1,_,C⟩:=p j q c e (by grind) a;by_cases r:k=h.next
    .subst r;rw[bT] at y;grind
    .rw[cB r] at y;obtain⟨s2,_,_⟩:=p k q sk r (by grind) y;exact d.inj j k q c sk f L s1 s2 a y
  .intro j q c f m a;simp at f;by_cases e:j=h.next
   .subst e;rw[bT] at a;cases a;exact F
   .rw[cB e] at a;obtain⟨s1,_,_⟩:=p j q c e (by grind) a;exact d.low j q c f s1 a
  .intro j q c f a;simp at f;have e:j≠h.next:=by have:=d.bn;omega
   rw[cB e] at a
   exact d.old j q c f a
  .intro j f;simp at f;rw[cB (by omega)];exact d.fresh j (by omega)
  .intro j f;simp at f;rw[l,aab,aab];exact d.iE j (by omega)
 .intro j f M;rw[cB (by omega)];exact M
 .grind
 .grind
 .intro j q c f m a _;by_cases e:j=h.next
  .subst e;rw[bT] at a;grind
  .rw[cB e] at a;grind
 grind
theorem dA (b o n:Nat):Addr.add ⟨b,o,none⟩ n=⟨b,o+n,none⟩:=by
 unfold Addr.add;grind
theorem vF {b e o:Nat} {c:Array Value} {fz:Nat×Nat} (hb:w.heap[b]?=some (.cells c e fz)):w.cell? ⟨b,o,none⟩=c[o]?:=by
 simp[World.cell?,hb]
theorem qW (p:Inv P B ρ h w) {a:Addr} {b n:Nat} {s:Nat×Nat} {l:List Value} (r:ρ a.block=some (b,s)) (d:cJ h a n=some l):
  ∃k,(loadCells ⟨b,a.off+s.2,none⟩ n).run P w= .ok ⟨k⟩ w/\aU ρ l k/\a.spot=none/\l.length=n:=by
 unfold cJ at d
 cases hs:a.spot with
 |some x=>simp[hs] at d
 |none=>
  simp only[hs,Option.isSome_none,Bool.false_eq_true,if_false] at d
  split at d
  .rename_i c e u x o;split at d
   .rename_i hle;cases d;obtain⟨A,q,f,rfl,g,t,_⟩:=p.nD _ _ o b s r;have i:=g.length;have m:(f.toList.drop s.2).length=f.size - s.2:=by simp
    refine⟨(((f.toList.drop s.2).take c.length).drop a.off).take n,?_,(g.drop _).take _,rfl,by simp;omega⟩
    have z:((((f.toList.drop s.2).take c.length).drop a.off).take n).length=n:=by
     grind
    have:=run_loadCells_list (P:=P) (w:=w) ⟨b,a.off+s.2,none⟩ ((((f.toList.drop s.2).take c.length).drop a.off).take n) (fun j v y=>by
     rw[dA,vF q];grind)
    grind
   .cases d
  .cases d
theorem pD {b e:Nat} {fz:Nat×Nat} (l:fz.2=0):∀(vs:List Value) (w:World) (c:Array Value) (a i:Nat),w.heap[b]?=some (.cells c e fz)->(∀v∈vs,v.oneCell'=true)->a+i+vs.length<=c.size->
  ∃f,(storeCells ⟨b,a,none⟩ vs i).run P w= .ok () f/\f.heap=w.heap.setIfInBounds b (.cells ⟨cF c.toList (a+i) vs⟩ e fz)/\f.os=w.os/\f.output=w.output/\f.tape=w.tape
 |[],w,c,a,i,k,_,_=>by
  refine⟨w,by simp[storeCells],?_,rfl,rfl,rfl⟩;simp only[cF,List.append_nil,List.length_nil,Nat.add_zero,List.take_append_drop];obtain⟨d,m⟩:=Array.getElem?_eq_some_iff.1 k;apply Array.ext_getElem?;intro j;by_cases g:b=j;subst g;simp[d,m];grind
 |v::vs,w,c,a,i,k,q,o=>by
  simp only[List.length_cons] at o;have x:w.cell? ⟨b,a+i,none⟩=some c[a+i]:=by rw[vF k];grind
  have y:w.frozen? ⟨b,a+i,none⟩=false:=by simp[World.frozen?,k,l]
  have n:(w.setCell ⟨b,a+i,none⟩ v).heap[b]?=some (.cells (c.setIfInBounds (a+i) v) e fz):=by
   simp[World.setCell,Array.getElem?_modify,k]
  obtain⟨f,z,r,s,p,t⟩:=pD l vs (w.setCell ⟨b,a+i,none⟩ v) (c.setIfInBounds (a+i) v) a (i+1) n (fun u p=>q u (List.mem_cons_of_mem _ p)) (by simp;omega);refine⟨f,?_,?_,s,p,t⟩;simp only[storeCells,Sem.run_bind];rw[dA,run_store P w _ v _ (q v List.mem_cons_self)];simp_all;rw[r];apply Array.ext_getElem?;intro j;by_cases g:b=j;subst g;have d:=(Array.getElem?_eq_some_iff.1 k).1;simp only[World.setCell];rw[Array.getElem?_setIfInBounds_self,Array.getElem?_setIfInBounds_self];simp only[Array.size_modify,d,if_true];congr 2;apply Array.ext';simp only[cF,Array.toList_setIfInBounds,List.length_cons];rw[show a+(i+1)=a+i+1 by omega,List.take_succ_eq_append_getElem (by simp;omega)];simp only[List.getElem_set_self,List.append_assoc,List.nil_append,List.take_set_of_le (Nat.le_refl _),List.cons_append];rw[List.drop_set_of_lt (by omega),show a+i+1+vs.length=a+i+(vs.length+1) by omega];rw[Array.getElem?_setIfInBounds_ne g,Array.getElem?_setIfInBounds_ne g];simp[World.setCell,Array.getElem?_modify,g]
theorem vO (I:Inv P B ρ h w) {a:Addr} {b:Nat} {s:Nat×Nat} {vs d:List Value} {h':AH} (J:ρ a.block=some (b,s)) (g:dI h a vs=some h') (E:aU ρ vs d):
  ∃A,(storeCells ⟨b,a.off+s.2,none⟩ d).run P w= .ok () A/\lJ P B ρ h w ρ h' A/\a.spot=none:=by
 unfold dI at g
 split at g
 .cases g
 rename_i f
 simp only[Bool.or_eq_true,not_or,Bool.not_eq_true,decide_eq_false_iff_not,Bool.not_eq_false'] at f
 obtain⟨⟨z,l⟩,p⟩:=f
 have z:a.spot=none:=by cases S:a.spot with|none=>rfl|some _=>rw[S] at z;cases z
 split at g
 .rename_i c e Q x H;split at g
  .rename_i hle;cases g;obtain⟨Y,U,k,rfl,G,V,X⟩:=I.nD _ _ H b s J;have i:=G.length;have W:=E.length;have r:∀v∈d,v.oneCell'=true:=by
    intro v F;obtain⟨j,T⟩:=List.getElem?_of_mem F;have q:j<vs.length:=by
     grind
    obtain⟨u,K,D⟩:=E.get (List.getElem?_eq_getElem q);rw[T] at K;cases K;exact D.Qm (List.all_eq_true.1 p _ (List.getElem_mem q))
   simp only[List.length_take] at i
   obtain⟨A,y,m,C,t,n⟩:=pD (P:=P) hle.1 d w k (a.off+s.2) 0 U r (by simp at i ⊢;omega)
   refine⟨A,y,xW I (Nat.not_lt.1 l) H J (o:= .cells (cF c a.off vs) e Q x) ⟨_,rfl,?_,?_,X⟩ m C t n,z⟩
   .have:((cF k.toList (a.off+s.2+0) d).drop s.2).take (cF c a.off vs).length=cF ((k.toList.drop s.2).take c.length) a.off d:=by
     have R:(cF k.toList (a.off+s.2+0) d).drop s.2=cF (k.toList.drop s.2) a.off d:=by
      unfold cF;simp only[Nat.add_zero];rw[List.append_assoc,List.drop_append_of_le_length (by simp;omega),List.drop_take,List.drop_drop,List.append_assoc];rw[show a.off+s.2 - s.2=a.off by omega,show s.2+(a.off+d.length)=a.off+s.2+d.length by omega]
     rw[R];unfold cF;rw[List.take_append,List.take_append];simp only[List.length_append,List.length_take,List.length_drop,List.take_take];have L:min a.off c.length=a.off:=by omega
     have M:a.off+vs.length+(c.length - (a.off+vs.length))=c.length:=by omega
     rw[L,M];have N:min c.length a.off=a.off:=by omega
     have O:min a.off (k.toList.length - s.2)=a.off:=by grind
     rw[N,O];congr 1;congr 1;rw[List.take_of_length_le (by omega)];grind
    show aU ρ _ (((cF k.toList (a.off+s.2+0) d).drop s.2).take (cF c a.off vs).length)
    rw[this]
    exact G.cF _ E
   .simp only[cF,List.length_append,List.length_take,List.length_drop] at*;grind
  .cases g
 .cases g
end
section
variable {P:Program} {B:Nat} {ρ:iP} {h:AH} {w:World}
theorem Ml {t:TypeId} (a:P.cellsOf t≠0):∃i,P.info? t=some i/\i.size=P.cellsOf t:=by
 unfold Program.cellsOf at a ⊢;cases hi:P.info? t with
 |none=>simp[hi] at a
 |some i=>grind
theorem fT {t:TypeId} {i:TypeInfo} (a:P.info? t=some i):(sizeOf t).run P w= .ok (P.cellsOf t) w:=by
 simp[sizeOf,typeInfo,a,Program.cellsOf]
theorem Hi {t:TypeId} {d:TypeDesc} (a:P.underlying t=some d):∃i,P.info? t=some i:=by
 unfold Program.underlying at a;grind
theorem Io {t:TypeId} {b:Bool} (hb:jM P t=some b):(isAgg t).run P w= .ok b w:=by
 unfold jM at hb;cases hd:P.underlying t with
 |none=>simp[hd] at hb
 |some d=>
  rw[hd] at hb;simp only[Option.map_some,Option.some.injEq] at hb;unfold isAgg;simp only[Sem.run_bind,run_underlying hd,Result.andThen_ok];subst hb;cases d<;>rfl
theorem S8 {t:TypeId} {b:Bool} (hb:jM P t=some b):∃i,P.info? t=some i:=by
 unfold jM at hb;cases hd:P.underlying t with
 |none=>simp[hd] at hb
 |some d=>exact Hi hd
theorem tL {e:TypeId} {z:List Value} (a:zeroOf P e=some z):
  ∃i b,P.info? e=some i/\i.zero=some b/\(zeroValue e).run P w= .ok b w/\b.cells.toList=z/\z.length=P.cellsOf e/\(∀ρ:iP,aU ρ z z):=by
 unfold zeroOf at a
 cases hi:P.info? e with
 |none=>simp[hi] at a
 |some i=>
  cases hz0:i.zero with
  |none=>simp[hi,hz0] at a
  |some b=>
   simp only[hi,hz0,Option.bind_some] at a
   split at a
   .rename_i c;simp only[Bool.and_eq_true,beq_iff_eq] at c;cases a;refine⟨i,b,rfl,hz0,by simp[zeroValue,typeInfo,hi,hz0],rfl,by simpa using c.2,fun ρ=>?_⟩;have d:=gY (ρ:=ρ) b c.1.1;exact d.cells (by cases b<;>first|rfl|simp[dZ] at c)
   .cases a
theorem vM {t:TypeId} {cs d:List Value} {c:Nat} {v:Value} (a:apart P t cs c=some v) (hc:aU ρ cs d):
  ∃e,(part t ⟨d⟩ c).run P w= .ok e w/\aF ρ v e:=by
 unfold apart at a
 cases hb:jM P t with
 |none=>simp[hb] at a
 |some b=>
  obtain⟨i,g⟩:=S8 hb
  rw[hb] at a
  cases b with
  |true=>
   simp only at a
   split at a
   .cases a;refine⟨.agg ⟨(d.drop c).take (P.cellsOf t)⟩,?_,?_⟩
    .simp only[part,Sem.run_bind,Io hb,Result.andThen_ok,if_true,fT g,Sem.run_pure];grind
    .simp only[aF];exact⟨_,by simp only[lG];exact(hc.drop c).take _,rfl⟩
   .cases a
  |false=>
   simp only at a
   obtain⟨e,f,j⟩:=hc.get a
   refine⟨e,?_,j⟩
   simp only[part,Sem.run_bind,Io hb,Result.andThen_ok]
   simp[f]
theorem I6 (r:Inv P B ρ h w) {t:TypeId} {a:Addr} {p v:Value} (q:aF ρ (.pointer (some a)) p) (f:wI P h t a=some v):
  ∃o,(Instr.loadAt t p).run P w= .ok o w/\aF ρ v o:=by
 simp only[aF] at q
 obtain⟨b,s,u,rfl⟩:=q
 unfold wI at f
 cases hb:jM P t with
 |none=>simp[hb] at f
 |some x=>
  obtain⟨i,m⟩:=S8 hb
  rw[hb] at f
  cases x with
  |true=>
   simp only[Option.map_eq_some_iff] at f
   obtain⟨l,C,rfl⟩:=f
   obtain⟨F,n,d,k,_⟩:=qW r u C
   refine⟨.agg ⟨F⟩,?_,?_⟩
   .rw[k];simp only[Instr.loadAt,Instr.sureAddr,loadVar,Sem.run_bind,Sem.run_pure,Result.andThen_ok,Io hb,if_true,fT m,n]
   .simp only[aF];exact⟨_,by simp only[lG];exact d,rfl⟩
  |false=>
   simp only at f
   split at f
   .cases f
   .rename_i k;have k:a.spot=none:=by cases A:a.spot with|none=>rfl|some _=>rw[A] at k;exact absurd rfl k
    split at f
    .rename_i c e H x z;obtain⟨I,D,G,rfl,y,E,_⟩:=r.nD _ _ z b s u;obtain⟨o,g,d⟩:=y.get f;refine⟨o,?_,d⟩;have j:w.cell? ⟨b,a.off+s.2,none⟩=some o:=by
      rw[vF D];rw[List.getElem?_take] at g;split at g;rw[List.getElem?_drop] at g;rw[Nat.add_comm];simpa using g;cases g
     rw[k]
     simp only[Instr.loadAt,Instr.sureAddr,loadVar,Sem.run_bind,Sem.run_pure,Result.andThen_ok,Io hb]
     simp[j]
    .cases f
theorem S7 (q:Inv P B ρ h w) {t:TypeId} {a:Addr} {l v v':Value} {h':AH} (m:aF ρ (.pointer (some a)) l) (u:aF ρ v v') (f:Q0 P h t a v=some h'):
  ∃k,(Instr.storeAt t l v').run P w= .ok () k/\lJ P B ρ h w ρ h' k:=by
 simp only[aF] at m
 obtain⟨b,s,r,rfl⟩:=m
 unfold Q0 iK at f
 cases ht:vS v with
 |true=>simp[ht] at f
 |false=>
  simp only[ht,Bool.false_eq_true,if_false] at f
  split at f
  .rename_i p;obtain⟨n,d⟩:=p;obtain⟨i,j⟩:=Option.isSome_iff_exists.1 d;have c:=u.cells ht;obtain⟨k,o,g,e⟩:=vO q r f c;refine⟨k,?_,g⟩;rw[e];have x:=c.length;simp only[Instr.storeAt,Instr.sureAddr,storeVar,Sem.run_bind,Sem.run_pure,Result.andThen_ok,fT j];grind
  .cases f
def My (ρ:iP):List (Nat×Value)->List (Nat×Value)->Prop
 |[],l=>l=[]
 |(i,v)::l,b=>∃a t,aF ρ v a/\My ρ l t/\b=(i,a)::t
theorem G9:∀(vs:List Value) (c:Array Value) (a i:Nat),a+i+vs.length<=c.size->
  ((vs.zipIdx i).foldl (fun d (x:Value×Nat)=>d.setIfInBounds (a+x.2) x.1) c)=⟨cF c.toList (a+i) vs⟩
 |[],c,a,i,_=>by
  apply Array.ext';simp[cF]
 |v::vs,c,a,i,b=>by
  simp only[List.length_cons] at b;simp only[List.zipIdx_cons,List.foldl_cons];rw[G9 vs (c.setIfInBounds (a+i) v) a (i+1) (by simp;omega)];congr 1;simp only[cF,Array.toList_setIfInBounds,List.length_cons];rw[show a+(i+1)=a+i+1 by omega,List.take_succ_eq_append_getElem (by simp;omega)];simp only[List.getElem_set_self,List.append_assoc,List.nil_append,List.take_set_of_le (Nat.le_refl _),List.cons_append];rw[List.drop_set_of_lt (by omega),show a+i+1+vs.length=a+i+(vs.length+1) by omega]
theorem Ez {place:Nat->Option (Nat×Nat)}:∀(b parts':List (Nat×Value)) (cells a r:List Value),My ρ b parts'->aU ρ cells a->D9 place cells b=some r->
  ∃m,Instr.fill place ⟨a⟩ parts'=some ⟨m⟩/\aU ρ r m
 |[],parts',cells,a,r,f,l,e=>by
  simp only[My] at f;subst f;simp only[D9,Option.some.injEq] at e;subst e;exact⟨a,rfl,l⟩
 |(i,v)::b,parts',cells,a,r,f,l,e=>by
  simp only[My] at f;obtain⟨y,t,x,u,rfl⟩:=f;simp only[D9] at e;split at e;rename_i k size z n d;unfold iK at d;split at d;cases d;rename_i j;cases d;split at e;rename_i p;have c:=x.cells (by simpa using j);have s:=c.length;have q:=l.length;obtain⟨m,o,g⟩:=Ez b t _ _ r u (l.cF k c) e;refine⟨m,?_,g⟩;simp only[Instr.fill,n];simp only[Array.length_toList] at s p;rw[aKi];rw[<-Array.foldl_toList,Array.toList_zipIdx];rw[G9 y.cells.toList ⟨a⟩ k 0 (by simp;omega)];simpa using o;grind;cases e;cases e
theorem My.map {α:Type} {f g:α->Value} {k:α->Nat} (a:∀x,aF ρ (f x) (g x)):∀l:List α,My ρ (l.map fun p=>(k p,f p)) (l.map fun p=>(k p,g p))
 |[]=>rfl
 |x::l=>⟨g x,_,a x,My.map a l,rfl⟩
theorem Kh:∀(fs:List Field),(∀f∈fs,(P.info? f.type).isSome)->
  (fs.mapM (m:=Sem) fun f=>do pure (f.offset,<-sizeOf f.type)).run P w= .ok (fs.map fun f=>(f.offset,P.cellsOf f.type)) w
 |[],_=>by simp
 |f::fs,a=>by
  obtain⟨i,c⟩:=Option.isSome_iff_exists.1 (a f List.mem_cons_self);simp only[List.mapM_cons,Sem.run_bind,fT c,Result.andThen_ok,Sem.run_pure,Kh fs (fun g b=>a g (List.mem_cons_of_mem _ b)),List.map_cons]
theorem Uo {t:TypeId} {a:List (Nat×Value)} {parts':Array (Nat×Value)} {v:Value} (D:My ρ a parts'.toList) (c:K7 P t a=some v):
  ∃E,(Instr.build t parts').run P w= .ok E w/\aF ρ v E:=by
 unfold K7 at c
 split at c
 .rename_i z q y r;obtain⟨i,C,_,_,j,g,_,k⟩:=tL (w:=w) y;split at c
  .rename_i o;simp only[Option.map_eq_some_iff] at c;obtain⟨l,u,rfl⟩:=c;obtain⟨A,p,b⟩:=Ez a parts'.toList z z l D (k ρ) u;refine⟨.agg ⟨A⟩,?_,by simp only[aF];exact⟨_,by simp only[lG];exact b,rfl⟩⟩;have d:C.cells=⟨z⟩:=by rw[<-g]
   have x:(q.mapM (m:=Sem) fun f=>do pure (f.offset,<-sizeOf f.type)).run P w= .ok (q.map fun f=>(f.offset,P.cellsOf f.type)) w:=by
    rw[Array.mapM_eq_mapM_toList];simp only[Sem.run_map];rw[Kh q.toList (fun f G=>by
     have:=Array.all_eq_true'.1 o f (by simpa using G);exact this)]
    simp only[Result.andThen_ok,Result.ok.injEq,and_true];grind
   simp only[Instr.build,Sem.run_bind,j,Result.andThen_ok,run_underlying r,x,d]
   simp_all
  .cases c
 .rename_i z n e y r;obtain⟨i,C,_,_,j,g,_,k⟩:=tL (w:=w) y;split at c
  .rename_i F;obtain⟨H,s⟩:=Option.isSome_iff_exists.1 F;simp only[Option.map_eq_some_iff] at c;obtain⟨l,u,rfl⟩:=c;obtain⟨A,p,b⟩:=Ez a parts'.toList z z l D (k ρ) u;refine⟨.agg ⟨A⟩,?_,by simp only[aF];exact⟨_,by simp only[lG];exact b,rfl⟩⟩;have d:C.cells=⟨z⟩:=by rw[<-g]
   simp only[Instr.build,Sem.run_bind,j,Result.andThen_ok,run_underlying r,fT s,d,p]
   rfl
  .cases c
 .cases c
end
section
variable {P:Program} {B:Nat} {ρ:iP} {h:AH} {w:World}
def zL (ρ:iP):Option Value->Option Value->Prop
 |none,v=>v=none
 |some v,a=>∃u,aF ρ v u/\a=some u
theorem zL.map {c a:Operand->Value} (b:∀x,aF ρ (c x) (a x)) (o:Option Operand):zL ρ (o.map c) (o.map a):=by
 cases o with
 |none=>rfl
 |some x=>exact⟨_,b x,rfl⟩
theorem sS {v v':Value} (c:aF ρ v v') {d y b r:Nat} (f:y<=b) (hb:lS (some v) d y=some r):(∀code,(Instr.sliceBound v' b code).run P w= .ok r w)/\r<=y:=by
 unfold lS at hb;split at hb;rename_i a;cases a;rename_i k i a;cases a;simp only[aF] at c;subst c;split at hb;rename_i e;cases hb;exact⟨fun code=>run_sliceBound w k i b code e.1 (by omega),by omega⟩;cases hb;cases hb
theorem sY {s p o t q y:Option Value} (a:zL ρ s t) (e:zL ρ p q) (j:zL ρ o y) (x5:Bool) {len cap b m z l:Nat} (hc:cap<=b)
  (A:lS o cap cap=some m) (i:(if p.isNone&&o.isSome then none else lS p len m)=some z) (d:lS s 0 z=some l):
  (Instr.sliceBounds x5 len b t q y).run P w= .ok (l,z,if o.isSome then m else b) w/\m<=cap/\l<=z/\(o=none->m=cap):=by
 cases o with
 |none=>
  simp only[zL] at j;subst j
  simp only[lS,Option.some.injEq] at A;subst A
  cases p with
  |none=>
   simp only[zL] at e;subst e
   simp[lS] at i;subst i
   cases s with
   |none=>simp only[zL] at a;subst a;simp[lS] at d;subst d;simp[Instr.sliceBounds]
   |some v=>
    obtain⟨u,f,rfl⟩:=a
    obtain⟨k,hle⟩:=sS (P:=P) (w:=w) f (Nat.le_refl _) d
    simp[Instr.sliceBounds,k,hle]
  |some v=>
   obtain⟨u,f,rfl⟩:=e
   simp at i
   obtain⟨k,hle⟩:=sS (P:=P) (w:=w) f hc i
   cases s with
   |none=>simp only[zL] at a;subst a;simp[lS] at d;subst d;simp[Instr.sliceBounds,k]
   |some v=>
    obtain⟨u,f,rfl⟩:=a
    obtain⟨n,c⟩:=sS (P:=P) (w:=w) f (Nat.le_refl _) d
    simp[Instr.sliceBounds,k,n,c]
 |some x=>
  obtain⟨D,C,rfl⟩:=j
  obtain⟨r,g⟩:=sS (P:=P) (w:=w) C hc A
  cases p with
  |none=>simp at i
  |some v=>
   obtain⟨u,f,rfl⟩:=e
   simp at i
   obtain⟨k,hle⟩:=sS (P:=P) (w:=w) f (Nat.le_refl _) i
   cases s with
   |none=>simp only[zL] at a;subst a;simp[lS] at d;subst d;simp[Instr.sliceBounds,r,k,g]
   |some v=>
    obtain⟨u,f,rfl⟩:=a
    obtain⟨n,c⟩:=sS (P:=P) (w:=w) f (Nat.le_refl _) d
    simp[Instr.sliceBounds,r,k,n,c,g]
theorem Uc (hi:Inv P B ρ h w) {t:TypeId} {x x':Value} {lo K A N J O:Option Value} {v:Value} (z:aF ρ x x') (q:zL ρ lo N) (p:zL ρ K J) (g:zL ρ A O)
  (d:uW P h t x lo K A=some v):∃v',(Instr.sliceAt t x' N J O).run P w= .ok v' w/\aF ρ v v':=by
 unfold uW at d
 split at d
 .rename_i n e a C;simp only[aF] at z;obtain⟨b,s,T,rfl⟩:=z;split at d
  .rename_i m R;split at d
   .rename_i k u;split at d
    .rename_i l F;split at d
     .rename_i G;cases d;obtain⟨i,f⟩:=Option.isSome_iff_exists.1 G.1;obtain⟨j,_,_,D⟩:=sY (P:=P) (w:=w) q p g false (Nat.le_refl n) R u F;have M:(if A.isSome then m else n)=m:=by simp_all
      rw[M] at j
      obtain⟨ab,Q,o⟩:=a
      obtain rfl:o=none:=G.2
      refine⟨.slice (some (if m=l then⟨b,Q+s.2,none⟩ else Addr.add ⟨b,Q+s.2,none⟩ (l*P.cellsOf e))) (k - l) (m - l),?_,?_⟩
      .simp only[Instr.sliceAt,Sem.run_bind,run_underlying C,Result.andThen_ok,Instr.sureAddr,Sem.run_pure,j,fT f]
      .rw[dA,dA];split<;>(simp only[aF];exact⟨b,s,_,T,Nat.le_refl _,Nat.le_add_right _ _,by grind⟩)
     .cases d
    .cases d
   .cases d
  .cases d
 .rename_i s C;simp only[aF] at z;subst z;split at d
  .cases d
  .rename_i H;have H:A=none:=by simp_all
   subst H
   split at d
   .rename_i k u;split at d
    .rename_i l F;cases d;obtain⟨j,_⟩:=sY (P:=P) (w:=w) q p g false (Nat.le_refl s.size) (m:=s.size) rfl (by simpa using u) F;simp only[zL] at g;subst g;refine⟨.string (s.extract l k),?_,by simp only[aF]⟩;simp only[Instr.sliceAt,Instr.slice,Sem.run_bind,run_underlying C,Result.andThen_ok,Option.isSome_none,Bool.false_eq_true,if_false,Sem.run_pure] at j ⊢;simp[j]
    .cases d
   .cases d
 .rename_i e len I C;simp only[aF] at z;subst z;split at d
  .rename_i m R;split at d
   .rename_i k u;split at d
    .rename_i l F;split at d
     .rename_i G;cases d;obtain⟨i,f⟩:=Option.isSome_iff_exists.1 G;obtain⟨j,_,_,D⟩:=sY (P:=P) (w:=w) q p g true (Nat.le_refl I) R u F;have M:(if A.isSome then m else I)=m:=by simp_all
      rw[M] at j
      refine⟨.slice none (k - l) (m - l),?_,by simp only[aF]⟩
      simp only[Instr.sliceAt,Instr.slice,Sem.run_bind,run_underlying C,Result.andThen_ok,j,fT f,Sem.run_pure,Option.map_none]
      simp
     .cases d
    .cases d
   .cases d
  .cases d
 .rename_i e a len I C;obtain⟨ab,Q,o⟩:=a;split at d
  .rename_i m R;split at d
   .rename_i k u;split at d
    .rename_i l F;split at d
     .rename_i U;obtain⟨sp,rfl⟩:∃sp,o=some sp:=by cases o with|none=>simp at U|some sp=>exact⟨sp,rfl⟩
      split at d
      .rename_i G;obtain⟨f,rfl,rfl⟩:=G;cases d;obtain⟨i,f⟩:=Option.isSome_iff_exists.1 f;simp only[aF] at z;obtain⟨_,_,V,E,_,_,rfl⟩:=z;obtain⟨j,Y,X,D⟩:=sY (P:=P) (w:=w) q p g true (Nat.zero_le E) R u F;obtain rfl:m=0:=by omega
       have hz:k=0:=by
        cases K with
        |none=>
         simp_all
        |some v=>
         simp at u;unfold lS at u;grind
       subst hz
       obtain rfl:l=0:=by omega
       cases r:A.isSome with
       |true=>
        refine⟨.slice (some V) 0 0,?_,?_⟩
        .simp only[Instr.sliceAt,Instr.slice,Sem.run_bind,run_underlying C,Result.andThen_ok,j,fT f,Sem.run_pure,Option.map_some,r,if_true]
        .simp only[if_true,tB,aF];grind
       |false=>
        refine⟨.slice (some (if E=0 then V else V.add (0*P.cellsOf e))) 0 E,?_,?_⟩
        .simp only[Instr.sliceAt,Instr.slice,Sem.run_bind,run_underlying C,Result.andThen_ok,j,fT f,Sem.run_pure,Option.map_some,r,Bool.false_eq_true,if_false,Nat.sub_zero];split<;>rfl
        .simp only[Bool.false_eq_true,if_false,aE6,aF];grind
      .cases d
     .rename_i U;have U:o=none:=by simp_all
      subst U
      simp only[aF] at z
      obtain⟨b,s,E,T,W,γ,rfl⟩:=z
      split at d
      .rename_i G;obtain⟨i,f⟩:=Option.isSome_iff_exists.1 G.1;obtain⟨j,Y,X,D⟩:=sY (P:=P) (w:=w) q p g true W R u F;have S:(Instr.sliceAt t (.slice (some ⟨b,Q+s.2,none⟩) len E) N J O).run P w=
         .ok (.slice (some (if(if A.isSome then m else E)=l then⟨b,Q+s.2,none⟩ else⟨b,Q+s.2+l*P.cellsOf e,none⟩)) (k - l) ((if A.isSome then m else E) - l)) w:=by
        simp only[Instr.sliceAt,Instr.slice,Sem.run_bind,run_underlying C,Result.andThen_ok,j,fT f,Sem.run_pure,Option.map_some,dA]
        grind
       refine⟨_,S,?_⟩
       split at d
       .rename_i L;subst L;obtain rfl:k=m:=by omega
        split at d
        .rename_i r;cases d;simp only[r,if_true,tB,aF];grind
        .rename_i r;have Z:A=none:=by simp_all
         subst Z
         have D:=D rfl
         subst D
         split at d
         .rename_i hex;cases d;unfold nR at hex;split at hex
          .rename_i c el fz x hg;cases hex;obtain⟨_,_,_,_,_,_,α⟩:=hi.nD _ _ hg b s T;have δ:s.1=0:=(α rfl).1;simp only[Option.isSome_none,Bool.false_eq_true,if_false,tB,aF];grind
          .cases hex
         .cases d;rw[dA];simp only[Option.isSome_none,Bool.false_eq_true,if_false,zU,aF];rw[Nat.sub_self];refine⟨trivial,trivial,_,E - k,fun k=>absurd k (by omega),fun _=>⟨b,s,T,by omega,fun β=>?_⟩,rfl⟩;grind
         .cases d
       .rename_i L;cases d;cases A with
        |none=>
         have D:=D rfl
         subst D
         simp only[Option.isSome_none,Bool.false_eq_true,if_false]
         rw[aab,dA]
         simp only[aF]
         grind
        |some y=>
         simp only[Option.isSome_some,if_true]
         rw[dA,aKi L]
         simp only[aF]
         grind
      .cases d
    .cases d
   .cases d
  .cases d
 .cases d
end
section
variable {P:Program} {B:Nat} {ρ:iP} {h:AH} {w:World}
theorem tF {d:Nat} {eq:TypeId->Value->Value->Option Bool} (heq:∀t x y n o r,aF ρ x n->aF ρ y o->eq t x y=some r->(Op.equalIn d t n o).run P w= .ok r w)
  {xs ys c e:List Value} (j:aU ρ xs c) (l:aU ρ ys e):∀(fs:List Field) (r:Bool),mP P eq xs ys fs=some r->(Op.eqFields d ⟨c⟩ ⟨e⟩ fs).run P w= .ok r w
 |[],r,h=>by simp only[mP,Option.some.injEq] at h;subst h;simp[Op.eqFields]
 |f::fs,r,h=>by
  simp only[mP] at h;split at h;rename_i i;simp only[Op.eqFields,i,ne_eq,not_true_eq_false,if_false];exact tF heq j l fs r h;rename_i i;simp only[Op.eqFields,ne_eq,i,not_false_eq_true,if_true,Sem.run_bind];split at h;rename_i x y p q;obtain⟨n,k,a⟩:=vM (P:=P) (w:=w) p j;obtain⟨o,m,b⟩:=vM (P:=P) (w:=w) q l;simp only[k,m,Result.andThen_ok];split at h;rename_i g;have:=heq _ _ _ _ _ _ a b g;simp only[this,Result.andThen_ok];simpa using tF heq j l fs r h;rename_i g;cases h;have:=heq _ _ _ _ _ _ a b g;simp[this];cases h;cases h
theorem Cd {d:Nat} {e:TypeId} {eq:TypeId->Value->Value->Option Bool} (heq:∀t x y l m r,aF ρ x l->aF ρ y m->eq t x y=some r->(Op.equalIn d t l m).run P w= .ok r w)
  {xs ys c f:List Value} (n:aU ρ xs c) (o:aU ρ ys f):∀(is:List Nat) (r:Bool),rT P eq e xs ys is=some r->(Op.eqItems d e (P.cellsOf e) ⟨c⟩ ⟨f⟩ is).run P w= .ok r w
 |[],r,h=>by simp only[rT,Option.some.injEq] at h;subst h;simp[Op.eqItems]
 |i::is,r,h=>by
  simp only[rT] at h;simp only[Op.eqItems,Sem.run_bind];split at h;rename_i x y p q;obtain⟨l,j,a⟩:=vM (P:=P) (w:=w) p n;obtain⟨m,k,b⟩:=vM (P:=P) (w:=w) q o;simp only[j,k,Result.andThen_ok];split at h;rename_i g;have:=heq _ _ _ _ _ _ a b g;simp only[this,Result.andThen_ok];simpa using Cd heq n o is r h;rename_i g;cases h;have:=heq _ _ _ _ _ _ a b g;simp[this];cases h;cases h
set_option maxHeartbeats 1000000 in
theorem j4 (d:Nat):∀(t:TypeId) (x y p q:Value) (r:Bool),aF ρ x p->aF ρ y q->zF P d t x y=some r->(Op.equalIn d t p q).run P w= .ok r w:=by
 induction d with
 |zero=>intro _ _ _ _ _ _ _ _ h;simp[zF] at h
 |succ d u=>
  intro t x y p q r g c h;unfold zF at h;split at h;rename_i f;simp only[aF] at g c;subst g;subst c;cases h;simp[Op.equalIn,run_underlying f];rename_i f;simp only[aF] at g c;subst g;subst c;split at h;rename_i C;cases h;simp[Op.equalIn,run_underlying f,C];cases h;rename_i f;simp only[aF] at g c;subst g;subst c;cases h;simp[Op.equalIn,run_underlying f];rename_i b f;simp only[aF] at g;subst g;cases h;cases b with
  |none=>simp only[aF] at c;subst c;simp[Op.equalIn,run_underlying f]
  |some b=>simp only[aF] at c;obtain⟨_,_,_,rfl⟩:=c;simp[Op.equalIn,run_underlying f]
  rename_i f;simp only[aF] at g c;obtain⟨_,_,_,rfl⟩:=g;subst c;cases h;simp[Op.equalIn,run_underlying f];rename_i f;simp only[aF] at g c;subst g;subst c;cases h;simp[Op.equalIn,run_underlying f];rename_i f;simp only[aF] at g c;subst g;obtain⟨_,_,rfl⟩:=c;cases h;simp[Op.equalIn,run_underlying f];rename_i f;simp only[aF] at g c;obtain⟨_,_,rfl⟩:=g;subst c;cases h;simp[Op.equalIn,run_underlying f];rename_i v D E f;simp only[aF] at g c;obtain⟨l,j,rfl⟩:=g;obtain⟨m,k,rfl⟩:=c;split at h;cases h;rename_i o;have s:P.fieldsOf t=v:=by simp[Program.fieldsOf,f]
  rw[run_equalIn_struct w d t l m (by rw[s];exact f) (by simpa using o),s];exact tF u (jB.1 j) (jB.1 k) _ _ h;rename_i n e D E f;simp only[aF] at g c;obtain⟨l,j,rfl⟩:=g;obtain⟨m,k,rfl⟩:=c;split at h;rename_i z;obtain⟨i,A⟩:=Option.isSome_iff_exists.1 z;rw[run_equalIn_array w d l m f A];exact Cd u (jB.1 j) (jB.1 k) _ _ h;cases h;rename_i b _ _ f;simp only[aF] at g;subst g;cases h;cases b with
  |none=>simp only[aF] at c;subst c;simp[Op.equalIn,run_underlying f]
  |some b=>
   obtain⟨_,_,sp⟩:=b;cases sp with
   |none=>simp only[aF] at c;obtain⟨_,_,_,_,_,_,rfl⟩:=c;simp[Op.equalIn,run_underlying f]
   |some _=>simp only[aF] at c;obtain⟨_,_,_,_,_,_,rfl⟩:=c;simp[Op.equalIn,run_underlying f]
  rename_i a _ _ _ _ f;simp only[aF] at c;subst c;cases h;obtain⟨_,_,sp⟩:=a;cases sp with
  |none=>simp only[aF] at g;obtain⟨_,_,_,_,_,_,rfl⟩:=g;simp[Op.equalIn,run_underlying f]
  |some _=>simp only[aF] at g;obtain⟨_,_,_,_,_,_,rfl⟩:=g;simp[Op.equalIn,run_underlying f]
  rename_i b f;simp only[aF] at g;subst g;cases h;cases b with
  |none=>simp only[aF] at c;subst c;simp[Op.equalIn,run_underlying f]
  |some b=>simp only[aF] at c;obtain⟨_,_,_,rfl⟩:=c;simp[Op.equalIn,run_underlying f]
  rename_i f;simp only[aF] at g c;obtain⟨_,_,_,rfl⟩:=g;subst c;cases h;simp[Op.equalIn,run_underlying f];rename_i f;simp only[aF] at g c;subst g;subst c;cases h;simp[Op.equalIn,run_underlying f];rename_i f;simp only[aF] at g c;subst g;obtain⟨_,_,_,_,_,_,rfl⟩:=c;cases h;simp[Op.equalIn,run_underlying f];rename_i f;simp only[aF] at g c;obtain⟨_,_,_,_,_,_,rfl⟩:=g;subst c;cases h;simp[Op.equalIn,run_underlying f];cases h
end
section
variable {P:Program} {B:Nat} {ρ:iP} {h:AH} {w:World}
theorem Np {op:BinOp} {t:TypeId} {x y:Operand} {a b k l:Value} (d:aF ρ a k) (hb:aF ρ b l) (o:vS a=false) (n:vS b=false) (g:G4 P t x y a b=true):
  (eqGuard op t x y k l).run P w= .ok () w:=by
 cases a with
 |chan r=>simp[vS] at o
 |nilIface=>
  simp only[aF] at d;subst d
  cases b with
  |chan r=>simp[vS] at n
  |nilIface=>
   simp only[aF] at hb;subst hb
   simp only[G4,Bool.or_eq_true] at g
   cases x with
   |const c=>rw[eqGuard_nil_constL];rfl
   |_=>
    cases y with
    |const c=>rw[eqGuard_nil_constR];rfl
    |_=>simp[isConst] at g
  |iface u v=>simp only[aF] at hb;obtain⟨_,_,rfl⟩:=hb;rw[eqGuard_nil_iface];rfl
  |agg e=>simp only[aF] at hb;obtain⟨_,_,rfl⟩:=hb;cases op<;>rfl
  |tuple e=>simp only[aF] at hb;obtain⟨_,_,rfl⟩:=hb;cases op<;>rfl
  |func m f c=>simp only[aF] at hb;obtain⟨_,_,_,_,_,_,rfl⟩:=hb;cases op<;>rfl
  |pointer a=>cases a with
   |none=>simp only[aF] at hb;subst hb;cases op<;>rfl
   |some a=>simp only[aF] at hb;obtain⟨_,_,_,rfl⟩:=hb;cases op<;>rfl
  |map a=>cases a with
   |none=>simp only[aF] at hb;subst hb;cases op<;>rfl
   |some a=>simp only[aF] at hb;obtain⟨_,_,_,rfl⟩:=hb;cases op<;>rfl
  |slice a _ _=>cases a with
   |none=>simp only[aF] at hb;subst hb;cases op<;>rfl
   |some a=>
    obtain⟨_,_,sp⟩:=a
    cases sp with
    |none=>simp only[aF] at hb;obtain⟨_,_,_,_,_,_,rfl⟩:=hb;cases op<;>rfl
    |some _=>simp only[aF] at hb;obtain⟨_,_,_,_,_,_,rfl⟩:=hb;cases op<;>rfl
  |_=>simp only[aF] at hb;subst hb;cases op<;>rfl
 |iface u v=>simp only[aF] at d;obtain⟨_,_,rfl⟩:=d;rw[eqGuard_at_iface];rfl
 |tuple e=>simp only[aF] at d;obtain⟨_,_,rfl⟩:=d;rw[eqGuard_at_tuple];rfl
 |func m f c=>simp only[aF] at d;obtain⟨_,_,_,_,_,_,rfl⟩:=d;rw[eqGuard_at_func];rfl
 |pointer a=>cases a with
  |none=>simp only[aF] at d;subst d;rw[eqGuard_at_pointer];rfl
  |some a=>simp only[aF] at d;obtain⟨_,_,_,rfl⟩:=d;rw[eqGuard_at_pointer];rfl
 |map a=>cases a with
  |none=>simp only[aF] at d;subst d;rw[eqGuard_at_map];rfl
  |some a=>simp only[aF] at d;obtain⟨_,_,_,rfl⟩:=d;rw[eqGuard_at_map];rfl
 |slice a _ _=>cases a with
  |none=>simp only[aF] at d;subst d;rw[eqGuard_at_slice];rfl
  |some a=>
   obtain⟨_,_,sp⟩:=a
   cases sp with
   |none=>simp only[aF] at d;obtain⟨_,_,_,_,_,_,rfl⟩:=d;rw[eqGuard_at_slice];rfl
   |some _=>simp only[aF] at d;obtain⟨_,_,_,_,_,_,rfl⟩:=d;rw[eqGuard_at_slice];rfl
 |bool _=>simp only[aF] at d;subst d;rw[eqGuard_at_bool];rfl
 |int _ _=>simp only[aF] at d;subst d;rw[eqGuard_at_int];rfl
 |float _ _=>simp only[aF] at d;subst d;rw[eqGuard_at_float];rfl
 |complex _ _ _=>simp only[aF] at d;subst d;rw[eqGuard_at_complex];rfl
 |string _=>simp only[aF] at d;subst d;rw[eqGuard_at_string];rfl
 |nilFunc=>simp only[aF] at d;subst d;rw[eqGuard_at_nilFunc];rfl
 |agg e=>
  simp only[aF] at d;obtain⟨i,_,rfl⟩:=d
  cases b with
  |agg p=>
   simp only[aF] at hb;obtain⟨j,_,rfl⟩:=hb
   simp only[G4,Bool.not_eq_true'] at g
   exact run_eqGuard_agg w op t x y i j g
  |chan r=>simp[vS] at n
  |iface u v=>simp only[aF] at hb;obtain⟨_,_,rfl⟩:=hb;cases op<;>rfl
  |tuple e=>simp only[aF] at hb;obtain⟨_,_,rfl⟩:=hb;cases op<;>rfl
  |func m f c=>simp only[aF] at hb;obtain⟨_,_,_,_,_,_,rfl⟩:=hb;cases op<;>rfl
  |pointer a=>cases a with
   |none=>simp only[aF] at hb;subst hb;cases op<;>rfl
   |some a=>simp only[aF] at hb;obtain⟨_,_,_,rfl⟩:=hb;cases op<;>rfl
  |map a=>cases a with
   |none=>simp only[aF] at hb;subst hb;cases op<;>rfl
   |some a=>simp only[aF] at hb;obtain⟨_,_,_,rfl⟩:=hb;cases op<;>rfl
  |slice a _ _=>cases a with
   |none=>simp only[aF] at hb;subst hb;cases op<;>rfl
   |some a=>
    obtain⟨_,_,sp⟩:=a
    cases sp with
    |none=>simp only[aF] at hb;obtain⟨_,_,_,_,_,_,rfl⟩:=hb;cases op<;>rfl
    |some _=>simp only[aF] at hb;obtain⟨_,_,_,_,_,_,rfl⟩:=hb;cases op<;>rfl
  |_=>simp only[aF] at hb;subst hb;cases op<;>rfl
theorem Dc {d:Nat} {t:TypeId} {x y:Value} {r:Bool} (h:zF P d t x y=some r):vS x=false/\vS y=false:=by
 cases d with
 |zero=>simp[zF] at h
 |succ d=>unfold zF at h;split at h<;>first|exact⟨rfl,rfl⟩|cases h
theorem Ck {op:BinOp} {k k':IntKind} {t:TypeId} {m n:Int} {v:Value} (a:Je op k m n=some v):(binOp op t (.int k m) (.int k' n)).run P w= .ok v w/\∀ρ:iP,aF ρ v v:=by
 unfold Je at a;split at a;cases a;rename_i b;split at a;cases a;exact⟨by simp[binOp,Op.shift,b],fun ρ=>by simp only[aF]⟩;cases a;exact⟨by simp[binOp,Op.shift,b],fun ρ=>by simp only[aF]⟩;cases a
theorem sn {op:BinOp} {k:IntKind} {t:TypeId} {m n:Int} {v:Value} (a:Mp op k m n=some v):(binOp op t (.int k m) (.int k n)).run P w= .ok v w/\∀ρ:iP,aF ρ v v:=by
 cases op<;>simp only[Mp,aG2,Option.map_some,Option.some.injEq] at a<;>try cases a
 case shl=>exact Ck a
 case shr=>exact Ck a
 case and=>exact⟨by simp[binOp,Op.intBits],fun ρ=>by simp only[aF]⟩
 case or=>exact⟨by simp[binOp,Op.intBits],fun ρ=>by simp only[aF]⟩
 case xor=>exact⟨by simp[binOp,Op.intBits],fun ρ=>by simp only[aF]⟩
 case andNot=>exact⟨by simp[binOp,Op.intBits],fun ρ=>by simp only[aF]⟩
 case add=>exact⟨by rw[binOp_add];rfl,fun ρ=>by simp only[aF]⟩
 case sub=>exact⟨by rw[binOp_sub];rfl,fun ρ=>by simp only[aF]⟩
 case mul=>exact⟨by rw[binOp_mul];rfl,fun ρ=>by simp only[aF]⟩
 case quo=>
  split at a;cases a;rename_i h;cases a;exact⟨by rw[binOp_quo];simp[Op.intDiv,h],fun ρ=>by simp only[aF]⟩
 case rem=>
  split at a;cases a;rename_i h;cases a;exact⟨by rw[binOp_rem];simp[Op.intDiv,h],fun ρ=>by simp only[aF]⟩
 case eql=>exact⟨by rw[binOp_eql];rfl,fun ρ=>by simp only[aF]⟩
 case neq=>exact⟨by rw[binOp_neq];rfl,fun ρ=>by simp only[aF]⟩
 case lss=>exact⟨by rw[binOp_lss];rfl,fun ρ=>by simp only[aF]⟩
 case leq=>exact⟨by rw[binOp_leq];rfl,fun ρ=>by simp only[aF]⟩
 case gtr=>exact⟨by rw[binOp_gtr];rfl,fun ρ=>by simp only[aF]⟩
 case geq=>exact⟨by rw[binOp_geq];rfl,fun ρ=>by simp only[aF]⟩
theorem uv {op:BinOp} {t:TypeId} {m n:ByteArray} {v:Value} (a:xz op m n=some v):(binOp op t (.string m) (.string n)).run P w= .ok v w/\∀ρ:iP,aF ρ v v:=by
 cases op<;>simp only[xz,Option.some.injEq] at a<;>try cases a
 case add=>
  split at a;rename_i h;cases a;refine⟨?_,fun ρ=>by simp only[aF]⟩;have:¬(((m.size+n.size:Nat):Int)>IntKind.i64.max):=by rw[IntKind.max_i64];omega
  simp only[binOp,Op.stringOp];rw[aKi this];rfl;cases a
 case eql=>exact⟨by simp[binOp,Op.stringOp],fun ρ=>by simp only[aF]⟩
 case neq=>exact⟨by simp[binOp,Op.stringOp],fun ρ=>by simp only[aF]⟩
 case lss=>exact⟨by simp[binOp,Op.stringOp],fun ρ=>by simp only[aF]⟩
theorem Cc {t:TypeId} {a b g i:Value} {r:Bool} (d:aF ρ a g) (hb:aF ρ b i) (j:zF P 10000 t a b=some r) (q:∀k m l n,¬(a= .int k m/\b= .int l n)) (s:∀m n,¬(a= .string m/\b= .string n)):
  (binOp .eql t g i).run P w= .ok (.bool r) w/\(binOp .neq t g i).run P w= .ok (.bool !r) w:=by
 have A:(Op.equal t g i).run P w= .ok r w:=j4 10000 t a b g i r d hb j
 obtain⟨p,z⟩:=Dc j
 have x:∀op,(op=BinOp.eql\/op=BinOp.neq)->binOp op t g i=(if op= .eql then(do pure (.bool (<-Op.equal t g i)):Sem Value) else do pure (.bool (!(<-Op.equal t g i)))):=by
  intro op e;cases a with
  |chan r=>simp[vS] at p
  |int k m=>
   simp only[aF] at d;subst d;cases b with
   |int l n=>grind
   |_=>
    unfold zF at j;grind
  |string m=>
   simp only[aF] at d;subst d;cases b with
   |string n=>grind
   |_=>
    unfold zF at j;grind
  |float k m=>unfold zF at j;grind
  |complex k m n=>unfold zF at j;grind
  |tuple o=>unfold zF at j;grind
  |bool c=>simp only[aF] at d;subst d;rcases e with rfl|rfl<;>simp[binOp]
  |nilFunc=>simp only[aF] at d;subst d;rcases e with rfl|rfl<;>simp[binOp]
  |nilIface=>simp only[aF] at d;subst d;rcases e with rfl|rfl<;>simp[binOp]
  |iface u v=>simp only[aF] at d;obtain⟨_,_,rfl⟩:=d;rcases e with rfl|rfl<;>simp[binOp]
  |func y f c=>simp only[aF] at d;obtain⟨_,_,_,_,_,_,rfl⟩:=d;rcases e with rfl|rfl<;>simp[binOp]
  |agg o=>simp only[aF] at d;obtain⟨_,_,rfl⟩:=d;rcases e with rfl|rfl<;>simp[binOp]
  |pointer a=>cases a with
   |none=>simp only[aF] at d;subst d;rcases e with rfl|rfl<;>simp[binOp]
   |some a=>simp only[aF] at d;obtain⟨_,_,_,rfl⟩:=d;rcases e with rfl|rfl<;>simp[binOp]
  |map a=>cases a with
   |none=>simp only[aF] at d;subst d;rcases e with rfl|rfl<;>simp[binOp]
   |some a=>simp only[aF] at d;obtain⟨_,_,_,rfl⟩:=d;rcases e with rfl|rfl<;>simp[binOp]
  |slice a _ _=>cases a with
   |none=>simp only[aF] at d;subst d;rcases e with rfl|rfl<;>simp[binOp]
   |some a=>
    obtain⟨_,_,sp⟩:=a
    cases sp with
    |none=>simp only[aF] at d;obtain⟨_,_,_,_,_,_,rfl⟩:=d;rcases e with rfl|rfl<;>simp[binOp]
    |some _=>simp only[aF] at d;obtain⟨_,_,_,_,_,_,rfl⟩:=d;rcases e with rfl|rfl<;>simp[binOp]
 simp_all
theorem gf {op:BinOp} {t:TypeId} {x y:Operand} {a b p q v:Value} (f:aF ρ a p) (hb:aF ρ b q) (c:Uj P op t x y a b=some v):
  ∃A,(do eqGuard op t x y p q;binOp op t p q:Sem Value).run P w= .ok A w/\aF ρ v A:=by
 unfold Uj at c
 split at c
 .rename_i k m j n;simp only[aF] at f hb;subst f;subst hb;split at c
  .rename_i C;subst C;obtain⟨d,e⟩:=sn (P:=P) (w:=w) (t:=t) c;exact⟨v,by simp only[Sem.run_bind,eqGuard_at_int,Sem.run_pure,Result.andThen_ok,d],e ρ⟩
  .obtain⟨d,e⟩:=Ck (P:=P) (w:=w) (t:=t) (k':=j) c;exact⟨v,by simp only[Sem.run_bind,eqGuard_at_int,Sem.run_pure,Result.andThen_ok,d],e ρ⟩
 .rename_i m n;simp only[aF] at f hb;subst f;subst hb;obtain⟨d,e⟩:=uv (P:=P) (w:=w) (t:=t) c;exact⟨v,by simp only[Sem.run_bind,eqGuard_at_string,Sem.run_pure,Result.andThen_ok,d],e ρ⟩
 .rename_i s u;have g:∀k m j n,¬(a= .int k m/\b= .int j n):=fun k m j n l=>s k m j n l.1 l.2;have i:∀m n,¬(a= .string m/\b= .string n):=fun m n l=>u m n l.1 l.2;split at c
  .split at c
   .rename_i z;simp only[Option.map_eq_some_iff] at c;obtain⟨r,o,rfl⟩:=c;obtain⟨d,e⟩:=Dc o;refine⟨.bool r,?_,by simp only[aF]⟩;simp only[Sem.run_bind,Np f hb d e z,Result.andThen_ok,(Cc f hb o g i).1]
   .cases c
  .split at c
   .rename_i z;simp only[Option.map_eq_some_iff] at c;obtain⟨r,o,rfl⟩:=c;obtain⟨d,e⟩:=Dc o;refine⟨.bool !r,?_,by simp only[aF]⟩;simp only[Sem.run_bind,Np f hb d e z,Result.andThen_ok,(Cc f hb o g i).2]
   .cases c
  .cases c
end
section
variable {P:Program} {B:Nat} {ρ:iP} {h:AH} {w:World}
theorem Db {r:Nat} {o:Obj} (a:w.heap[r]?=some o) (hc:∀c e f,o≠.cells c e f):(getObj r).run P w= .ok o w:=by
 simp only[getObj,Sem.run,a]
theorem tN {r:Nat} {o o':Obj} (a:w.heap[r]?=some o) (hc:∀c e f,o≠.cells c e f):(setObj r o').run P w= .ok () {w with heap:=w.heap.setIfInBounds r o'}:=by
 simp only[setObj,Sem.run,a]
theorem qL {r:Nat} {es:Array MapEntry} {c:Nat} (b:w.heap[r]?=some (.map es c)):(getObj r).run P w= .ok (.map es c) w:=
 Db b fun _ _ _ a=>by cases a
theorem wX {r:Nat} {es:Array MapEntry} {c:Nat} {o':Obj} (b:w.heap[r]?=some (.map es c)):(setObj r o').run P w= .ok () {w with heap:=w.heap.setIfInBounds r o'}:=
 tN b fun _ _ _ a=>by cases a
theorem H9 {t e:TypeId} (h:Ge P t=some e):∃a k,P.underlying t=some (.map a e)/\P.underlying a=some (.int k):=by
 unfold Ge at h;grind
def Up (ρ:iP):Option (Nat×Value)->Option (Nat×Value)->Prop
 |none,y=>y=none
 |some (i,v),y=>∃a,aF ρ v a/\y=some (i,a)
theorem Gn {kk k:IntKind} {n:Int}:∀(es:List (Value×Value×Nat)) (c:List MapEntry) (i:Nat) (r:Option (Nat×Value)),lA ρ es c->wP k n es i=some r->
  ∃f,Instr.findNow (.int kk) (.int k n) c i=some f/\Up ρ r f
 |[],c,i,r,e,a=>by
  simp only[lA] at e;subst e;simp only[wP,Option.some.injEq] at a;subst a;exact⟨none,rfl,rfl⟩
 |(l,v,b)::es,c,i,r,e,a=>by
  obtain⟨y,p,t,o,q,s,rfl⟩:=e;cases l with
  |int j m=>
   simp only[aF] at o;subst o;simp only[wP] at a;split at a;rename_i u;subst u;split at a;rename_i g;simp only[Option.some.injEq] at a;subst a;refine⟨some (i,p),?_,p,q,rfl⟩;simp[Instr.findNow,Instr.sameNow,g];rename_i g;obtain⟨f,x,d⟩:=Gn (kk:=kk) es t (i+1) r s a;refine⟨f,?_,d⟩;have:(n==m)=false:=by simpa using g
   simp[Instr.findNow,Instr.sameNow,this,x];cases a
  |_=>simp[wP] at a
theorem oI {d:TypeId} {kk k:IntKind} {n:Int} (g:P.underlying d=some (.int kk)) {es:List (Value×Value×Nat)} {a:List MapEntry} {r:Option (Nat×Value)} (e:lA ρ es a) (f:wP k n es 0=some r):
  ∃c,(Instr.findKey d (.int k n) a).run P w= .ok c w/\Up ρ r c:=by
 obtain⟨c,i,b⟩:=Gn (kk:=kk) es a 0 r e f
 refine⟨c,?_,b⟩
 simp only[Instr.findKey,Sem.run_bind,run_underlying g,Result.andThen_ok,i,Sem.run_pure]
theorem kR {a:TypeId} {kk k:IntKind} {n:Int} (b:P.underlying a=some (.int kk)) (e:Bool):(Instr.checkKey e 10000 a (.int k n)).run P w= .ok () w:=by
 show(Instr.checkKey e (9999+1) a (.int k n)).run P w= .ok () w;rw[Instr.checkKey,Sem.run_bind,run_underlying b];rfl
theorem km {t:TypeId} {z:Value} (a:zeroV P t=some z):(zeroValue t).run P w= .ok z w/\aF ρ z z:=by
 unfold zeroV at a;cases hi:P.info? t with
 |none=>simp[hi] at a
 |some i=>
  cases hz0:i.zero with
  |none=>simp[hi,hz0] at a
  |some z0=>
   simp only[hi,hz0,Option.bind_some] at a;split at a;rename_i b;cases a;exact⟨by simp[zeroValue,typeInfo,hi,hz0],gY _ b⟩;cases a
theorem Y4 (k:Inv P B ρ h w) {x f:Value} {es:List (Value×Value×Nat)} (e:aF ρ x f) (d:X9 h x=some es):
  ∃a,lA ρ es a/\((f= .map none/\a=[])\/∃r c,f= .map (some r)/\w.heap[r]?=some (.map ⟨a⟩ c)):=by
 unfold X9 at d
 split at d
 .cases d;simp only[aF] at e;exact⟨[],rfl,.inl ⟨e,rfl⟩⟩
 .rename_i r;split at d
  .rename_i g c j;cases d;simp only[aF] at e;obtain⟨b,s,i,rfl⟩:=e;obtain⟨n,l,a,m,rfl⟩:=k.nD _ _ j b s i;grind
  .cases d
 .cases d
theorem Xj (G:Inv P B ρ h w) {t:TypeId} {x D ix o v:Value} {ok:Bool} (K:aF ρ x D) (g:aF ρ ix o) (a:yB P h t x ix ok=some v):
  ∃q,(Instr.lookup t D o ok).run P w= .ok q w/\aF ρ v q:=by
 unfold yB at a
 split at a
 .rename_i e M k n H I;obtain⟨C,N,F,b⟩:=H9 H;obtain⟨s,E,y⟩:=Y4 G K I;simp only[aF] at g;subst g;have fin:∀(r:Option (Nat×Value)) (d:Option (Nat×Value)),(Instr.findKey C (.int k n) s).run P w= .ok d w->
    (Instr.lookup t D (.int k n) ok).run P w=(match d with
     |some (_,v)=>(.ok (if ok then .tuple #[v,.bool true] else v) w:Result Value)
     |none=>((zeroValue e).run P w).andThen fun z w=> .ok (if ok then .tuple #[z,.bool false] else z) w):=by
   intro r d f
   rcases y with⟨rfl,rfl⟩|⟨r,c,rfl,J⟩
   .unfold Instr.lookup;simp only[Sem.run_bind,run_underlying F,Result.andThen_ok,kR b,f,Sem.run_pure];cases d with
    |some p=>rfl
    |none=>simp_all
   .unfold Instr.lookup;simp only[Sem.run_bind,run_underlying F,Result.andThen_ok,qL J,kR b,f,Sem.run_pure];cases d with
    |some p=>rfl
    |none=>simp_all
  split at a
  .rename_i i v0 f;simp only[Option.some.injEq] at a;obtain⟨d,u,q,l,rfl⟩:=oI (w:=w) b E f;refine⟨_,fin none _ u,?_⟩;subst a;cases ok
   .exact l
   .show aF ρ (.tuple ⟨[v0,.bool true]⟩) (.tuple ⟨[q,.bool true]⟩);simp only[aF];exact⟨_,by simp only[lG];exact aU.cons l (aU.cons (by simp only[aF]) aU.nil),rfl⟩
  .rename_i f;simp only[Option.map_eq_some_iff] at a;obtain⟨z,L,a⟩:=a;obtain⟨d,u,j⟩:=oI (w:=w) b E f;simp only[Up] at j;subst j;obtain⟨A,m⟩:=km (w:=w) (ρ:=ρ) L;refine⟨_,by rw[fin none _ u,A];rfl,?_⟩;subst a;cases ok
   .exact m
   .show aF ρ (.tuple ⟨[z,.bool false]⟩) (.tuple ⟨[z,.bool false]⟩);simp only[aF];exact⟨_,by simp only[lG];exact aU.cons m (aU.cons (by simp only[aF]) aU.nil),rfl⟩
  .cases a
 .cases a
theorem lA.length:∀{es:List (Value×Value×Nat)} {a:List MapEntry},lA ρ es a->es.length=a.length
 |[],_,b=>by simp only[lA] at b;subst b;rfl
 |(_,_,_)::es,_,⟨_,_,t,_,_,c,rfl⟩=>by simp[lA.length c]
theorem lA.snoc:∀{es:List (Value×Value×Nat)} {a:List MapEntry} {k k' v v':Value} {c:Nat},lA ρ es a->aF ρ k k'->aF ρ v v'->
  lA ρ (es++[(k,v,c)]) (a++[{key:=k',val:=v',born:=c}])
 |[],_,k,k',v,v',c,e,b,d=>by simp only[lA] at e;subst e;exact⟨k',v',[],b,d,rfl,rfl⟩
 |(_,_,_)::es,_,k,k',v,v',c,⟨j,v1,t,f,g,i,rfl⟩,b,d=>⟨j,v1,_,f,g,lA.snoc i b d,rfl⟩
theorem lA.erase:∀{es:List (Value×Value×Nat)} {a:List MapEntry} (i:Nat),lA ρ es a->lA ρ (es.eraseIdx i) (a.eraseIdx i)
 |[],_,i,e=>by simp only[lA] at e;subst e;simp[lA]
 |(_,_,_)::es,_,0,⟨_,_,t,c,d,b,rfl⟩=>b
 |(_,_,_)::es,_,i+1,⟨f,v1,t,c,d,b,rfl⟩=>⟨f,v1,_,c,d,lA.erase i b,rfl⟩
theorem lA.mod:∀{es:List (Value×Value×Nat)} {a:List MapEntry} (i:Nat) {k k' v v':Value},lA ρ es a->aF ρ k k'->aF ρ v v'->
  lA ρ (es.modify i fun e=>(k,v,e.2.2)) (a.modify i fun e=>{e with key:=k',val:=v'})
 |[],_,i,k,k',v,v',j,_,_=>by simp only[lA] at j;subst j;simp[lA]
 |(_,_,_)::es,_,0,k,k',v,v',⟨_,_,t,f,g,b,rfl⟩,c,d=>⟨k',v',t,c,d,b,rfl⟩
 |(_,_,_)::es,_,i+1,k,k',v,v',⟨l,v1,t,f,g,b,rfl⟩,c,d=>⟨l,v1,_,f,g,lA.mod i b c d,rfl⟩
theorem G3 {kk k:IntKind} {n:Int}:∀(a:List MapEntry) (i:Nat) {j:Nat} {v:Value},Instr.findNow (.int kk) (.int k n) a i=some (some (j,v))->i<=j/\∃e,a[j - i]?=some e/\e.key= .int k n
 |[],i,j,v,h=>by simp[Instr.findNow] at h
 |e::c,i,j,v,h=>by
  simp only[Instr.findNow] at h;split at h;rename_i b;simp only[Option.some.injEq,Prod.mk.injEq] at h;obtain⟨rfl,rfl⟩:=h;refine⟨Nat.le_refl _,e,by simp,?_⟩;cases hk:e.key with
  |int j m=>
   rw[hk] at b;simp only[Instr.sameNow] at b;grind
  |_=>rw[hk] at b;simp[Instr.sameNow] at b
  obtain⟨f,d,g,l⟩:=G3 c (i+1) h;grind;cases h
theorem Ky (j:Inv P B ρ h w) {a:Array TypeId} {ty t k e:TypeId} {x g:Value} {es:List (Value×Value×Nat)} (b:a[0]?=some t) (d:P.underlying t=some (.map k e)) (n:aF ρ x g) (l:X9 h x=some es):
  (Builtin.len_ a ty #[g]).run P w= .ok (goInt es.length) w:=by
 obtain⟨i,f,⟨rfl,rfl⟩|⟨r,c,rfl,m⟩⟩:=Y4 j n l
 .have:=f.length;simp[Builtin.len_,b,run_underlying d,this]
 .have:=f.length;simp[Builtin.len_,b,run_underlying d,qL m,this]
theorem Yk (F:Inv P B ρ h w) {t:TypeId} {m O k k' x q:Value} {I:AH} (K:aF ρ m O) (J:aF ρ k k') (M:aF ρ x q) (g:E2 P h t m k x=some I):
  ∃R,(Instr.mapUpdate t O k' q).run P w= .ok () R/\lJ P B ρ h w ρ I R:=by
 unfold E2 at g
 split at g
 .rename_i e r j n v;obtain⟨key,N,L,d⟩:=H9 v;split at g
  .cases g
  .rename_i C;split at g
   .rename_i S a E;simp only[Option.map_eq_some_iff] at g;obtain⟨o,l,rfl⟩:=g;simp only[aF] at K J;subst J;obtain⟨b,s,A,rfl⟩:=K;obtain⟨W,f,c,u,rfl⟩:=F.nD _ _ E b s A;unfold aAx at l;split at l
    .rename_i i v0 z;simp only[Option.some.injEq] at l;subst l;obtain⟨U,G,Q,_,rfl⟩:=oI (w:=w) d u z;obtain⟨X,H,v2,_,rfl⟩:=Gn (kk:=N) S c 0 _ u z;obtain⟨_,V,D,T⟩:=G3 c 0 H;simp only[Nat.sub_zero] at D;have p:(Instr.keyThatStays (.int j n) (.int j n)).run P w= .ok (.int j n) w:=by
      simp[Instr.keyThatStays,Instr.sameBits]
     refine⟨{w with heap:=w.heap.setIfInBounds b (.map ((⟨c⟩:Array MapEntry).modify i fun e=>{e with key:= .int j n,val:=q}) a)},?_,?_⟩
     .unfold Instr.mapUpdate;simp only[Sem.run_bind,run_underlying L,Result.andThen_ok,qL f,kR d,G];rw[show((⟨c⟩:Array MapEntry)[i]?).map (·.key)=some (.int j n) by grind];simp only[Option.getD_some,p,Result.andThen_ok,wX f]
     .refine xW F (by omega) E A ?_ rfl rfl rfl rfl;refine⟨_,lA.mod i u (k':= .int j n) (v':=q) (by simp only[aF]) M,?_⟩;grind
    .rename_i z;simp only[Option.some.injEq] at l;subst l;obtain⟨U,G,y⟩:=oI (w:=w) d u z;simp only[Up] at y;subst y;refine⟨{w with heap:=w.heap.setIfInBounds b (.map ((⟨c⟩:Array MapEntry).push {key:= .int j n,val:=q,born:=a}) (a+1))},?_,?_⟩
     .unfold Instr.mapUpdate;simp only[Sem.run_bind,run_underlying L,Result.andThen_ok,qL f,kR d,G,wX f]
     .refine xW F (by omega) E A ?_ rfl rfl rfl rfl;refine⟨_,lA.snoc u (k':= .int j n) (v':=q) (by simp only[aF]) M,?_⟩;simp
    .cases l
   .cases g
 .cases g
theorem Xr (q:Inv P B ρ h w) {a:Array TypeId} {ty t:TypeId} {m H k k':Value} {G:AH} (y:a[0]?=some t) (v:aF ρ m H) (u:aF ρ k k') (c:D5 P h t m k=some G):
  ∃I,(Builtin.delete_ a ty ⟨[H,k']⟩).run P w= .ok (.tuple #[]) I/\lJ P B ρ h w ρ G I:=by
 unfold D5 at c
 split at c
 .rename_i e J n g;obtain⟨F,K,x,d⟩:=H9 g;cases c;simp only[aF] at v u;subst v u;exact⟨w,by simp[Builtin.delete_,y,run_underlying x,kR d],lJ.refl q⟩
 .rename_i e r J n g;obtain⟨F,K,x,d⟩:=H9 g;split at c
  .cases c
  .rename_i A;split at c
   .rename_i M f D;simp only[aF] at v u;subst u;obtain⟨b,s,z,rfl⟩:=v;obtain⟨N,j,l,p,rfl⟩:=q.nD _ _ D b s z;split at c
    .rename_i i v0 C;simp only[Option.some.injEq] at c;subst c;obtain⟨L,E,O,_,rfl⟩:=oI (w:=w) d p C;refine⟨{w with heap:=w.heap.setIfInBounds b (.map ((⟨l⟩:Array MapEntry).eraseIdxIfInBounds i) f)},?_,?_⟩
     .simp[Builtin.delete_,y,run_underlying x,kR d,qL j,E,wX j]
     .refine xW q (by omega) D z ?_ rfl rfl rfl rfl;refine⟨_,lA.erase i p,?_⟩;grind
    .rename_i C;simp only[Option.some.injEq] at c;subst c;obtain⟨L,E,o⟩:=oI (w:=w) d p C;simp only[Up] at o;subst o;refine⟨{w with heap:=w.heap.setIfInBounds b (.map ⟨l⟩ f)},?_,?_⟩
     .simp[Builtin.delete_,y,run_underlying x,kR d,qL j,E,wX j]
     .exact xW q (by omega) D z ⟨_,p,rfl⟩ rfl rfl rfl rfl
    .cases c
   .cases c
 .cases c
end
section
variable {P:Program} {B:Nat} {ρ:iP} {h:AH} {w:World}
theorem lG.map {α:Type} {f g:α->Value} (b:∀x,aF ρ (f x) (g x)) (a:Array α):lG ρ (a.map f) (a.map g):=by
 rw[jB];simp only[Array.toList_map];exact aU.Cp b _
theorem Uy {x e v:Value} (d:aF ρ x e) (b:strOf h x=some v):∃a n c,e= .slice a n c:=by
 unfold strOf at b;split at b;simp only[aF] at d;grind;rename_i a n c;obtain⟨_,_,sp⟩:=a;cases sp with
 |none=>simp only[aF] at d;grind
 |some _=>simp only[aF] at d;grind
 cases b
theorem Ip {f:Value->ByteArray->Sem (ForInStep ByteArray)} (j:∀n s,f (.int .u8 n) s=pure (.yield (s.push (UInt8.ofNat n.toNat)))):∀(l l':List Value) (e:List UInt8) (s:ByteArray),aU ρ l l'->zQ l=some e->
  (forIn (m:=Sem) l' s f).run P w= .ok ⟨⟨s.data.toList++e⟩⟩ w
 |[],l',e,s,d,c=>by
  simp only[aU] at d;subst d;simp only[zQ,Option.some.injEq] at c;subst c;simp
 |v::l,l',e,s,d,c=>by
  simp only[aU] at d;obtain⟨p,o,i,k,rfl⟩:=d;simp only[zQ] at c;split at c;rename_i b r a g;cases c;unfold byteOf at a;split at a;cases a;simp only[aF] at i;subst i;simp only[List.forIn_cons,Sem.run_bind,j,Sem.run_pure,Result.andThen_ok];rw[Ip j l o r _ k g];simp;cases a;cases c
theorem gz (r:Inv P B ρ h w) {x p v:Value} (e:aF ρ x p) (d:strOf h x=some v):∃m,(Conv.bytesToString p).run P w= .ok m w/\aF ρ v m:=by
 unfold strOf at d;split at d;cases d;simp only[aF] at e;subst e;exact⟨.string .empty,by simp[Conv.bytesToString],by simp only[aF]⟩;rename_i a n c;split at d;rename_i t;subst t;cases d;refine⟨.string .empty,?_,by simp only[aF]⟩;obtain⟨_,_,sp⟩:=a;cases sp with
 |none=>simp only[aF] at e;obtain⟨_,_,_,_,_,_,rfl⟩:=e;simp[Conv.bytesToString,loadCells,loadCellsFrom]
 |some _=>simp only[aF] at e;obtain⟨_,_,_,_,_,_,rfl⟩:=e;simp[Conv.bytesToString,loadCells,loadCellsFrom]
 simp only[Option.map_eq_some_iff,Option.bind_eq_some_iff] at d;obtain⟨j,⟨l,k,q⟩,rfl⟩:=d;obtain⟨i,o,sp⟩:=a;cases sp with
 |some _=>simp[cJ] at k
 |none=>
  simp only[aF] at e;obtain⟨b,s,z,u,_,_,rfl⟩:=e;obtain⟨y,g,f,_,_⟩:=qW r (a:=⟨i,o,none⟩) u k;refine⟨.string ⟨⟨j⟩⟩,?_,by simp only[aF]⟩;simp only[Conv.bytesToString,Sem.run_bind,g,Result.andThen_ok];rw[<-Array.forIn_toList];simp only[Sem.run_pure];rw[Ip (P:=P) (w:=w) (fun n s=>by rfl) l y j .empty f q];rfl
 cases d
set_option maxHeartbeats 1000000 in
theorem Ha (S:Inv P B ρ h w) {V A:Operand->Value} (m:∀x,aF ρ (V x) (A x)) (o:Oper) {v:Value} (l:bY P V h o.op=some v):
  ∃F,(execOp A o).run P w= .ok (.value F) w/\aF ρ v F:=by
 obtain⟨dst,op,ty,pos,after,guard⟩:=o
 simp only at l
 cases op with
 |move x=>simp only[bY,Option.some.injEq] at l;subst l;exact⟨_,rfl,m x⟩
 |assign x=>simp only[bY,Option.some.injEq] at l;subst l;exact⟨_,rfl,m x⟩
 |pick c a b=>
  simp only[bY] at l
  split at l
  .rename_i t G;have q:=m c;rw[G] at q;simp only[aF] at q;simp only[Option.some.injEq] at l;subst l;refine⟨if t then A a else A b,?_,by cases t<;>simp[m]⟩;simp[execOp,q,asBool]
  .cases l
 |build t M=>
  simp only[bY] at l
  obtain⟨F,K,r⟩:=Uo (w:=w) (parts':=M.map fun p=>(p.1,A p.2)) (by
   simp only[Array.toList_map];exact My.map (f:=fun p:Nat×Operand=>V p.2) (g:=fun p=>A p.2) (k:=fun p=>p.1) (fun p=>m p.2) _) l
  refine⟨F,?_,r⟩
  show(do pure (Next.value (<-Instr.build t (M.map fun(i,x)=>(i,A x)))):Sem Next).run P w=_
  simp_all
 |load t a=>
  simp only[bY] at l
  split at l
  .rename_i a0 N;have q:=m a;rw[N] at q;obtain⟨F,K,r⟩:=I6 S q l;exact⟨F,by simp[execOp,K],r⟩
  .cases l
 |nilCheck x=>
  simp only[bY] at l
  split at l
  .rename_i a N;have q:=m x;rw[N] at q;simp only[Option.some.injEq] at l;subst l;have D:=q;simp only[aF] at q;obtain⟨b,s,O,H⟩:=q;exact⟨A x,by simp[execOp,H],D⟩
  .rename_i f a b N;have q:=m x;rw[N] at q;simp only[Option.some.injEq] at l;subst l;have D:=q;simp only[aF,C8] at q;obtain⟨_,_,_,rfl,_,_,H⟩:=q;exact⟨A x,by simp[execOp,H],D⟩
  .rename_i f a b N;have q:=m x;rw[N] at q;simp only[Option.some.injEq] at l;subst l;have D:=q;simp only[aF,C8] at q;obtain⟨_,_,_,⟨_,_,_,rfl⟩,_,_,H⟩:=q;exact⟨A x,by simp[execOp,H],D⟩
  .cases l
 |binOp op t x y yt=>
  simp only[bY] at l
  obtain⟨F,K,r⟩:=gf (P:=P) (w:=w) (m x) (m y) l
  refine⟨F,?_,r⟩
  show(do pure (Next.value (<-(do eqGuard op t x y (A x) (A y);binOp op t (A x) (A y)))):Sem Next).run P w=_
  rw[Sem.run_bind,K]
  rfl
 |unOp op t x=>
  simp only[bY] at l
  split at l
  .rename_i k n E;have q:=m x;rw[E] at q;simp only[aF] at q;simp only[Option.some.injEq] at l;subst l;exact⟨.int k (k.wrap (0 - n)),by simp[execOp,q,Op.unary,Op.intArith],by simp only[aF]⟩
  .rename_i b E;have q:=m x;rw[E] at q;simp only[aF] at q;simp only[Option.some.injEq] at l;subst l;exact⟨.bool !b,by simp[execOp,q,Op.unary],by simp only[aF]⟩
  .cases l
 |convert s d x=>
  simp only[bY] at l
  split at l
  .rename_i ds k _ n Q I E;have q:=m x;rw[E] at q;simp only[aF] at q;simp only[Option.some.injEq] at l;subst l;exact⟨.int k (k.wrap n),by simp[execOp,q,convert,run_underlying Q,run_underlying I,Conv.intToInt],by simp only[aF]⟩
  .rename_i z Q I E;have q:=m x;rw[E] at q;simp only[aF] at q;simp only[Option.some.injEq] at l;subst l;exact⟨.string z,by simp[execOp,q,convert,run_underlying Q,run_underlying I],by simp only[aF]⟩
  .rename_i e Q I;split at l
   .rename_i H;obtain⟨F,K,r⟩:=gz S (m x) l;refine⟨F,?_,r⟩;have X:(convert s d (A x)).run P w= .ok F w:=by
     obtain⟨a,n,c,E⟩:=Uy (m x) l;rw[E] at K ⊢;simp[convert,run_underlying Q,run_underlying I,run_underlying H,K]
    simp[execOp,X]
   .cases l
  .cases l
 |makeInterface t x=>
  simp only[bY] at l
  split at l
  .cases l
  .rename_i d I α;simp only[Option.some.injEq] at l;subst l;refine⟨.iface t (A x),?_,by simp only[aF];exact⟨_,m x,rfl⟩⟩;have:P.concrete t=true:=by
    unfold Program.concrete;rw[α];cases d<;>grind
   simp[execOp,run_makeInterface w t (A x) this]
  .cases l
 |makeFunc fn first L=>
  simp only[bY] at l
  split at l
  .rename_i f;simp only[Option.some.injEq] at l;subst l;refine⟨.func (.func f) (first.map A) (L.map A),by simp[execOp,Instr.makeFunc],?_⟩;simp only[aF,C8];exact⟨_,_,_,rfl,lG.map m _,lG.map m _,rfl⟩
  .cases l
 |slice t x lo Z mx=>
  simp only[bY] at l
  obtain⟨F,K,r⟩:=Uc S (m x) (zL.map m lo) (zL.map m Z) (zL.map m mx) l
  exact⟨F,by simp[execOp,K],r⟩
 |fieldAddr s x f=>
  simp only[bY] at l
  split at l
  .rename_i fs a I E;have q:=m x;rw[E] at q;simp only[aF] at q;obtain⟨b,sp,O,H⟩:=q;split at l
   .rename_i fd Y;split at l
    .cases l
    .rename_i hn;simp only[Option.some.injEq] at l;subst l;obtain⟨i,C,_⟩:=Ml hn;refine⟨.pointer (some (Addr.add ⟨b,a.off+sp.2,a.spot⟩ fd.offset)),?_,?_⟩
     .simp[execOp,H,Instr.fieldAt,run_underlying I,Y,Instr.sureAddr,fieldPlace,fT C,hn]
     .simp only[aF];refine⟨b,sp,?_,?_⟩
      .unfold Addr.add;split<;>exact O
      .unfold Addr.add;grind
   .cases l
  .cases l
 |field t x f=>
  simp only[bY] at l
  split at l
  .rename_i fs cs I E;have q:=m x;rw[E] at q;simp only[aF] at q;obtain⟨U,G,H⟩:=q;split at l
   .rename_i fd Y;obtain⟨F,K,r⟩:=vM (P:=P) (w:=w) l (jB.1 G);exact⟨F,by simp[execOp,H,Instr.field,run_underlying I,Y,asAgg,K],r⟩
   .cases l
  .cases l
 |indexAddr t x i=>
  simp only[bY] at l
  split at l
  .rename_i n e a k j I E J;have q:=m x;have D:=m i;rw[E] at q;rw[J] at D;simp only[aF] at q D;obtain⟨b,sp,O,H⟩:=q;split at l
   .rename_i G;simp only[Option.some.injEq] at l;subst l;obtain⟨inf,C⟩:=Option.isSome_iff_exists.1 G.2.2;refine⟨.pointer (some (Addr.add ⟨b,a.off+sp.2,a.spot⟩ (j.toNat*P.cellsOf e))),?_,?_⟩
    .simp[execOp,H,D,Instr.indexAt,asIntOf,run_underlying I,Instr.sureAddr,G.1,G.2.1,fT C]
    .simp only[aF];refine⟨b,sp,?_,?_⟩
     .unfold Addr.add;split<;>exact O
     .unfold Addr.add;grind
   .cases l
  .rename_i e a n c k j I E J;have q:=m x;have D:=m i;rw[E] at q;rw[J] at D;split at l
   .rename_i G;obtain⟨ab,ao,T⟩:=a;obtain rfl:T=none:=G.2.2.2;simp only[aF] at q D;obtain⟨b,sp,c',O,_,_,H⟩:=q;simp only[Option.some.injEq] at l;subst l;obtain⟨inf,C⟩:=Option.isSome_iff_exists.1 G.2.2.1;refine⟨.pointer (some (Addr.add ⟨b,ao+sp.2,none⟩ (j.toNat*P.cellsOf e))),?_,?_⟩
    .simp[execOp,H,D,Instr.indexAt,asIntOf,run_underlying I,G.1,G.2.1,fT C]
    .rw[dA,dA];simp only[aF];grind
   .cases l
  .cases l
 |index t x i=>
  simp only[bY] at l
  split at l
  .rename_i n e cs k j I E J;have q:=m x;have D:=m i;rw[E] at q;rw[J] at D;simp only[aF] at q D;obtain⟨U,W,H⟩:=q;split at l
   .rename_i G;obtain⟨inf,C⟩:=Option.isSome_iff_exists.1 G.2.2;obtain⟨F,K,r⟩:=vM (P:=P) (w:=w) l (jB.1 W);exact⟨F,by simp[execOp,H,D,Instr.index,asIntOf,run_underlying I,G.1,G.2.1,fT C,K],r⟩
   .cases l
  .rename_i s k j I E J;have q:=m x;have D:=m i;rw[E] at q;rw[J] at D;simp only[aF] at q D;split at l
   .rename_i G;simp only[Option.map_eq_some_iff] at l;obtain⟨u,hu,rfl⟩:=l;exact⟨.int .u8 u.toNat,by simp[execOp,q,D,Instr.index,asIntOf,run_underlying I,G,hu],by simp only[aF]⟩
   .cases l
  .cases l
 |extract t i=>
  simp only[bY] at l
  split at l
  .rename_i vs ht;have q:=m t;rw[ht] at q;simp only[aF] at q;obtain⟨β,G,H⟩:=q;obtain⟨F,R,r⟩:=(jB.1 G).get l;exact⟨F,by simp only[Array.getElem?_toList] at R;simp[execOp,H,Instr.extract,R],r⟩
  .cases l
 |lookup t x ix ok=>
  simp only[bY] at l
  obtain⟨F,K,r⟩:=Xj S (m x) (m ix) l
  exact⟨F,by simp[execOp,K],r⟩
 |_=>simp only[bY] at l;cases l
theorem xG (f:Nat->Value):(Array.range 0).map f= #[]:=by grind
theorem xL {z:List Value} {size:Nat} (c:z.length=size) (n:Nat):((Array.range (n*size)).map fun i=>(⟨z⟩:Array Value)[i % (⟨z⟩:Array Value).size]!)=⟨dY z n⟩:=by
 apply Array.ext';simp only[Array.toList_map,Array.toList_range];show(List.range (n*size)).map (fun i=>(⟨z⟩:Array Value)[i % z.length]!)=dY z n;subst c;induction n with
 |zero=>simp[dY]
 |succ n d=>
  rw[Nat.succ_mul,List.range_add,List.map_append,d];unfold dY;rw[List.replicate_succ',List.flatten_append];congr 1;simp only[List.flatten_cons,List.flatten_nil,List.append_nil,List.map_map];apply List.ext_getElem;simp;intro j a b;simp at a b;simp only[List.getElem_map,List.getElem_range,Function.comp];have e:(n*z.length+j) % z.length=j:=by rw[Nat.mul_comm,Nat.mul_add_mod,Nat.mod_eq_of_lt (by omega)]
  grind
theorem C5 {z:List Value} (a:aU ρ z z) (n:Nat):aU ρ (dY z n) (dY z n):=by
 unfold dY;induction n with
 |zero=>exact aU.nil
 |succ n b=>rw[List.replicate_succ,List.flatten_cons];exact a.append b
theorem Gx {W d:Operand->Value} (q:∀x,aF ρ (W x) (d x)) (o:Oper) {b:oS} {f:Nat->Value} (a:gO P W o.op=some (b,f)):
  ∃(o':Obj) (g:Nat->Value),tZ P ρ (0,0) b o'/\(execOp d o).run P w= .ok (.value (g w.heap.size)) (w.alloc o')/\∀(ρ':iP) i s,s.2=0->ρ' i=some (w.heap.size,s)->aF ρ' (f i) (g w.heap.size):=by
 obtain⟨dst,op,ty,pos,after,guard⟩:=o
 simp only at a
 cases op with
 |alloc e=>
  simp only[gO,Option.map_eq_some_iff] at a
  obtain⟨z,T,a⟩:=a
  cases a
  obtain⟨i,N,M,_,v,m,D,y⟩:=tL (w:=w) T
  refine⟨.cells N.cells e,fun n=> .pointer (some ⟨n,0,none⟩),⟨N.cells,rfl,?_,?_,fun _=>⟨rfl,rfl⟩⟩,?_,?_⟩
  .simp only[List.drop_zero];rw[m,List.take_of_length_le (Nat.le_refl _)];exact y ρ
  .rw[<-m];simp
  .simp[execOp,Instr.alloc,v,newVar,newRow]
  .intro ρ' i s C A;simp only[aF];exact⟨_,_,A,by rw[C]⟩
 |box e x=>
  simp only[gO,Option.map_eq_some_iff] at a
  obtain⟨l,F,a⟩:=a
  cases a
  unfold iK at F
  split at F
  .cases F
  .rename_i ht;cases F;have L:=(q x).cells (by simpa using ht);have β:=L.length;refine⟨.cells (d x).cells e,fun n=> .pointer (some ⟨n,0,none⟩),⟨_,rfl,?_,?_,fun _=>⟨rfl,rfl⟩⟩,?_,?_⟩
   .grind
   .grind
   .simp[execOp,Instr.box,newVar,newRow]
   .intro ρ' i s C A;simp only[aF];exact⟨_,_,A,by rw[C]⟩
 |buildSlice t len j=>
  simp only[gO] at a
  split at a
  .rename_i e Q;split at a
   .rename_i z T;obtain⟨i,N,M,_,v,m,D,y⟩:=tL (w:=w) T;split at a
    .rename_i hle;simp only[Option.map_eq_some_iff] at a;obtain⟨l,F,a⟩:=a;cases a;obtain⟨r',Y,S⟩:=Ez _ (j.map fun p=>(p.1,d p.2)).toList _ _ l (by
      simp only[Array.toList_map];exact My.map (f:=fun p:Nat×Operand=>W p.2) (g:=fun p=>d p.2) (k:=fun p=>p.1) (fun p=>q p.2) _) (C5 (y ρ) len) F
     have γ:=S.length
     have K:N.cells=⟨z⟩:=by rw[<-m]
     refine⟨.cells ⟨r'⟩ e,fun n=> .slice (some ⟨n,0,none⟩) len len,⟨_,rfl,?_,?_,fun _=>⟨rfl,rfl⟩⟩,?_,?_⟩
     .grind
     .show 0+l.length+0*_<=r'.length;omega
     .have R:¬len*P.cellsOf e>2^24:=by omega
      have J:Instr.fill (fun i=>some (i*P.cellsOf e,P.cellsOf e)) ⟨dY z len⟩ (j.map fun(x:Nat×Operand)=>(x.1,d x.2)).toList=some ⟨r'⟩:=Y
      show(do pure (Next.value (<-Instr.buildSlice t len (j.map fun(i,x)=>(i,d x)))):Sem Next).run P w=_
      simp only[Instr.buildSlice,Sem.run_bind,run_underlying Q,Result.andThen_ok,fT M,R,if_false]
      have L:=xL D len
      by_cases E:len*P.cellsOf e=0
      .have u:(⟨dY z len⟩:Array Value)= #[]:=by rw[<-L,E,xG]
       rw[u] at J
       simp only[E,if_true,Sem.run_bind,Sem.run_pure,Result.andThen_ok]
       rw[xG,J]
       simp[newRow]
      .simp only[E,if_false,Sem.run_bind,v,Sem.run_pure,Result.andThen_ok,K];rw[L,J];simp[newRow]
     .intro ρ' i s C A;simp only[aF];exact⟨_,_,_,A,Nat.le_refl _,Nat.le_add_right _ _,by rw[C]⟩
    .cases a
   .cases a
  .cases a
 |makeSlice t l c=>
  simp only[gO] at a
  split at a
  .rename_i e k1 U k2 cc Q F L;split at a
   .rename_i z T;obtain⟨i,N,M,_,v,m,D,y⟩:=tL (w:=w) T;split at a
    .rename_i H;obtain⟨E,V,h2,h3⟩:=H;simp only[Option.some.injEq,Prod.mk.injEq] at a;obtain⟨rfl,rfl⟩:=a;have I:=q l;have G:=q c;rw[F] at I;rw[L] at G;simp only[aF] at I G;have K:N.cells=⟨z⟩:=by rw[<-m]
     have hb:i.bytes=P.bytesOf e:=by simp[Program.bytesOf,M]
     refine⟨.cells ⟨dY z cc.toNat⟩ e,fun n=> .slice (some ⟨n,0,none⟩) U.toNat cc.toNat,⟨_,rfl,?_,?_,fun _=>⟨rfl,rfl⟩⟩,?_,?_⟩
     .simp only[List.drop_zero];rw[List.take_of_length_le (Nat.le_refl _)];exact C5 (y ρ) _
     .show 0+(dY z cc.toNat).length+0*_<=(dY z cc.toNat).length;omega
     .have α:IntKind.i64.wrap U=U:=IntWalk.i64_in _ ⟨by omega,by omega⟩;have Z:IntKind.i64.wrap cc=cc:=IntWalk.i64_in _ ⟨by omega,by omega⟩;have t1:(typeInfo e).run P w= .ok i w:=by simp[typeInfo,M]
      have X:((decide (cc<0)||decide ((i.bytes:Int)*cc>2^48))||decide (U<0)||decide (U>cc))=false:=by
       grind
      simp only[execOp,I,G,Instr.makeSlice,Sem.run_bind,run_underlying Q,Result.andThen_ok,asInt,asIntOf,Sem.run_pure,t1,α,Z,X,Bool.false_eq_true,if_false,run_askRoom,fT M]
      have O:=xL D cc.toNat
      by_cases E:cc.toNat*P.cellsOf e=0
      .have u:(⟨dY z cc.toNat⟩:Array Value)= #[]:=by rw[<-O,E,xG]
       rw[u]
       simp only[E,if_true,Sem.run_bind,Sem.run_pure,Result.andThen_ok]
       rw[xG]
       simp[newRow]
      .simp only[E,if_false,Sem.run_bind,v,Sem.run_pure,Result.andThen_ok,K];rw[O];simp[newRow]
     .intro ρ' i s C A;simp only[aF];exact⟨_,_,_,A,Nat.le_refl _,Nat.le_add_right _ _,by rw[C]⟩
    .cases a
   .cases a
  .cases a
 |makeMap t r=>
  cases r with
  |none=>
   simp only[gO,Option.some.injEq,Prod.mk.injEq] at a
   obtain⟨rfl,rfl⟩:=a
   refine⟨.map #[] 0,fun n=> .map (some n),⟨[],rfl,rfl⟩,rfl,?_⟩
   intro ρ' i s C A;simp only[aF];grind
  |some x=>
   simp only[gO] at a
   split at a
   .rename_i δ elem k n Q hx;simp only[Option.some.injEq,Prod.mk.injEq] at a;obtain⟨rfl,rfl⟩:=a;have V:=q x;rw[hx] at V;simp only[aF] at V;refine⟨.map #[] 0,fun n=> .map (some n),⟨[],rfl,rfl⟩,by simp[execOp,Instr.makeMap,V,run_underlying Q,asInt,asIntOf],?_⟩;intro ρ' i s C A;simp only[aF];grind
   .cases a
 |_=>simp only[gO] at a;cases a
end
end Go.Ab
