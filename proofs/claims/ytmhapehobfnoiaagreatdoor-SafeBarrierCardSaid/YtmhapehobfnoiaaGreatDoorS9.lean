/- A part of the proof. -/
import Derived.Test.YtmhapehobfnoiaaGreatDoorChecked
import Derived.Test.YtmhapehobfnoiaaGreatDoorS5
import Derived.Test.YtmhapehobfnoiaaGreatDoorS4
import Derived.Test.YtmhapehobfnoiaaGreatDoorS8
import Derived.KernelRfl
import Derived.Test.YtmhapehobfnoiaaGreatDoorS7
import Derived.LaidLaws
import Derived.MakeChecks
import Derived.WalkKit
import Derived.ProofKit
import Derived.ChangeOld
import Derived.ChangeSame
import Derived.ChangeVars
import Derived.JoinedOf
import Derived.Carry
import Derived.LaidHandle
import Derived.Stop.Joined
import Derived.Test.YtmhapehobfnoiaaGreatDoorS6
namespace Go.Proofs.YtmhapehobfnoiaaGreatDoor
open Go Go.Ab
section
set_option maxRecDepth 100000
noncomputable abbrev Pr:Program:=Tryz.prog
noncomputable def K0:FuncId->List Value->Option kA:=fun f d=>match f,d with
 |100,[.func (.func 155) ⟨[]⟩ ⟨[.pointer (some ⟨c,0,none⟩)]⟩]=>some (.host (Bp 3 c))
 |234,[.iface 332 v,w,l]=>some (.fwd 348 [v,w,l])
 |104,[.slice (some ⟨b,o,none⟩) n _,.func (.func 105) ⟨[]⟩ ⟨[]⟩]=>some (.host (Ei b o n))
 |156,[.slice none 0 0,.int .i64 n]=>some (.host (G5 256 n))
 |_,_=>none
theorem Uv:Pr.globals.size=4:=by kernel_rfl
end
end Go.Proofs.YtmhapehobfnoiaaGreatDoor
namespace Go.Ab
open Go Go.RowKit
section
variable {P:Program} {H:Type}
def zM (f:DataW H->Option (List Value)) (w:Nat):List (DataW H)->Option (List Value)
 |[]=>some []
 |d::e=>match f d with
  |some c=>if c.length=w then(zM f w e).map (c++·) else none
  |none=>none
def xS (f:TypeId->DataW H->Option (List Value)) (w:TypeId->Nat):List Field->List (DataW H)->Nat->Option (List Value)
 |[],[],_=>some []
 |x::g,d::e,o=>match f x.type d with
  |some c=>if x.offset=o/\c.length=w x.type then(xS f w g e (o+c.length)).map (c++·) else none
  |none=>none
 |_,_,_=>none
def cellsD (P:Program):Nat->TypeId->DataW H->Option (List Value)
 |0,_,_=>none
 |n+1,t,d=>match P.underlying t,d with
  |some (.int _),.lit (.int k m)=>some [.int k m]
  |some .bool,.lit (.bool b)=>some [.bool b]
  |some .string,.lit (.string s)=>some [.string ⟨s.toArray⟩]
  |some (.array _ e),.agg g=>match zM (cellsD P n e) (P.cellsOf e) g with
   |some l=>if l.length=P.cellsOf t then some l else none
   |none=>none
  |some (.struct j),.agg g=>match xS (cellsD P n) P.cellsOf j.toList g 0 with
   |some l=>if l.length=P.cellsOf t then some l else none
   |none=>none
  |_,_=>none
theorem Jz {f:DataW H->Option (List Value)} {w:Nat}:∀{e:List (DataW H)} {l:List Value},zM f w e=some l->l.length=e.length*w
 |[],l,h=>by simp[zM] at h;subst h;simp
 |d::e,l,h=>by
  unfold zM at h;split at h;rename_i c m;split at h;rename_i g;simp only[Option.map_eq_some_iff] at h;obtain⟨r,j,rfl⟩:=h;have:=Jz j;simp[this,g,Nat.succ_mul];omega;cases h;cases h
theorem Nr {f:DataW H->Option (List Value)} {w:Nat} {T:List Value->Option (DataW H×List MemPlace)} (j:∀c x l,T c=some x->f x.1=some l->c=l):∀(xs:List (DataW H×List MemPlace)) (cs l:List Value),
    zM f w (xs.map (·.1))=some l->cs.length=xs.length*w->(∀i,i<xs.length->T ((cs.drop (i*w)).take w)=xs[i]?)->cs=l
 |[],cs,l,h,d,_=>by simp[zM] at h;subst h;exact List.eq_nil_of_length_eq_zero (by simpa using d)
 |x::xs,cs,l,h,d,g=>by
  simp only[List.map_cons,zM] at h;split at h;rename_i c o;split at h;rename_i t;simp only[Option.map_eq_some_iff] at h;obtain⟨r,u,rfl⟩:=h;have e:=g 0 (by simp);simp only[Nat.zero_mul,List.drop_zero,List.getElem?_cons_zero] at e;have m:=j _ _ _ e o;have n:=Nr j xs (cs.drop w) r u (by rw[List.length_drop,d,List.length_cons,Nat.succ_mul];omega) fun i v=>by
   have:=g (i+1) (by simp;omega);rw[List.getElem?_cons_succ] at this;rw[List.drop_drop,<-this,Nat.succ_mul,Nat.add_comm]
  rw[<-List.take_append_drop w cs,m,n];cases h;cases h
theorem Jr {f:TypeId->DataW H->Option (List Value)} {w:TypeId->Nat} {T:TypeId->List Value->Option (DataW H×List MemPlace)} (j:∀t c x l,T t c=some x->f t x.1=some l->c=l) {cs:List Value}:∀(fs:List Field) (xs:List (DataW H×List MemPlace)) (o:Nat) (l:List Value),
    xS f w fs (xs.map (·.1)) o=some l->(∀(i:Nat) (x:Field),fs[i]?=some x->T x.type ((cs.drop x.offset).take (w x.type))=xs[i]?)->(cs.drop o).take l.length=l
 |[],[],o,l,h,_=>by simp[xS] at h;subst h;simp
 |[],_::_,_,_,h,_=>by simp[xS] at h
 |_::_,[],_,_,h,_=>by simp[xS] at h
 |y::fs,x::xs,o,l,h,g=>by
  simp only[List.map_cons,xS] at h;split at h;rename_i c u;split at h;rename_i d;simp only[Option.map_eq_some_iff] at h;obtain⟨r,v,rfl⟩:=h;have n:=g 0 y rfl;have e:=j _ _ _ _ n u;have m:=Jr j fs xs (o+c.length) r v fun i z A=>g (i+1) z A;rw[d.1,<-d.2] at e;rw[List.length_append,List.take_add,List.drop_drop,e,m];cases h;cases h
variable {enc:TypeId×Value->H} {w:World} {base:Nat} {spare:Nat->Bool} {held:Bool}
theorem Xt:∀(n:Nat) {t:TypeId} {cs l:List Value} {x:DataW H×List MemPlace} {fuel:Nat},DataW.trod enc P w base spare held fuel t cs=some x->cellsD P n t x.1=some l->cs=l:=by
 intro n;induction n with
 |zero=>intro t cs l x fuel _ h;cases h
 |succ n E=>
  intro t cs l x fuel u h;unfold cellsD at h;split at h;rename_i e d;obtain⟨m,rfl,g,_⟩:=DataW.trod_int e u;rw[g] at d;cases d;cases h;rfl;rename_i e d;obtain⟨m,rfl,g⟩:=DataW.trod_bool e u;rw[g] at d;cases d;cases h;rfl;rename_i e d;obtain⟨m,rfl,g,_⟩:=DataW.trod_string e u;rw[g] at d;cases d;cases h;rfl;rename_i e d;obtain⟨C,m,_,g,D,B,j⟩:=DataW.trod_array e u;rw[g] at d;cases d;split at h;rename_i r v;split at h;rename_i o;cases h;have:=Jz v;rw[List.length_map] at this;exact Nr (T:=DataW.trod enc P w base spare held m _) (fun c y l z A=>E z A) C cs l v (by rw[D,<-o,this]) fun i I=>j i (by omega);cases h;cases h;rename_i e d;obtain⟨C,m,_,g,D,B,j⟩:=DataW.trod_struct e u;rw[g] at d;cases d;split at h;rename_i r v;split at h;rename_i o;cases h;have:=Jr (w:=P.cellsOf) (T:=fun t c=>DataW.trod enc P w base spare held m t c) (fun t c y l z A=>E z A) (cs:=cs) _ C 0 l v fun i y F=>j i y (by rw[<-F,Array.getElem?_toList]);rw[List.drop_zero,List.take_of_length_le (by omega)] at this;exact this;cases h;cases h;cases h
theorem Eo {n:String} {d:DataW Unit}:∀{laid:List (String×DataW Unit)} {ps:List MemPlace},DataW.LaidVars P w laid ps->(n,d)∈laid->
  ∃g t j fuel p,P.globalNamed n=some g/\(P.globals[g]?).map (·.type)=some t/\w.var? P n=some j/\DataW.trod (fun _=>()) P w 0 (fun _=>true) false fuel t j.toList=some (d,p)
 |[],_,_,m=>by cases m
 |(B,A)::r,ps,h,m=>by
  obtain⟨g,t,j,fuel,p,q,o,u,v,y,z,_⟩:=h;rcases List.mem_cons.1 m with e|e;cases e;exact⟨g,t,j,fuel,p,o,u,v,y⟩;exact Eo z e
theorem xF {laid:List (String×DataW Unit)} {n:String} {d:DataW Unit} {g:Nat} {t:TypeId} {l:List Value} (fuel:Nat) (B:(laid.all fun x=>x.2.handleName?.isNone)=true) (h:laidMetH P laid w) (A:(n,d)∈laid)
  (o:P.globalNamed n=some g) (C:(P.globals[g]?).map (·.type)=some t) (hc:cellsD P fuel t d=some l):∃e m,w.heap[g]?=some (.cells ⟨l⟩ e m):=by
 rw[Go.MakeChecks.laidMetH_plain _ _ _ B] at h
 obtain⟨F,D,_⟩:=h
 obtain⟨E,I,r,f,p,u,v,j,y⟩:=Eo D A
 obtain rfl:=Option.some.inj (o.symm.trans u)
 obtain rfl:=Option.some.inj (C.symm.trans v)
 have:=Xt fuel y hc
 simp only[World.var?,o,Option.bind_some] at j
 split at j
 .rename_i c e m z;cases j;refine⟨e,m,?_⟩;rw[z];cases r;simp at this;subst this;rfl
 .cases j
end
end Go.Ab
namespace Go.Ab
open Go Go.RowKit Go.ChangeShapes Go.WideShapes Go.ChangeAt
section
variable {H:Type} {enc:TypeId×Value->H}
def Xk (P:Program) (d:List TypeId):Bool:=d.all fun t=>P.readableRec t&&decide (t<P.types.size)
theorem Nf {P:Program} (u:laidOutB P=true) {W o:World} (hb:Below W.heap.size W o):∀(e:List TypeId) {vs:List Value} {g:List (DataW H)} {ps:List MemPlace},Xk P e=true->
  DataW.TrodAll enc P W 0 (fun _=>true) true e vs g ps->DataW.TrodAll enc P o 0 (fun b=>decide (b<W.heap.size)) true e vs g ps
 |[],vs,g,ps,_,h=>by
  obtain⟨rfl,rfl,rfl⟩:=trodAll_nil h;exact trodAll_mk0
 |t::e,vs,g,ps,j,h=>by
  obtain⟨v,B,d,y,p,q,rfl,rfl,rfl,r,z⟩:=trodAll_cons h;simp only[Xk,List.all_cons,Bool.and_eq_true,decide_eq_true_eq] at j;have n:∀x∈p,x.block<W.heap.size:=by obtain⟨m,A⟩:=r;exact DataW.trod_lt m _ _ _ A
  exact trodAll_cons_mk (Below.trod u j.1.1 j.1.2 r hb n) (Nf u hb e j.2 z)
theorem xJ {P:Program} {w:World} {base:Nat} {spare:Nat->Bool} {held:Bool}:∀(g:List TypeId) {vs:List Value} {e:List (DataW H)} {ps:List MemPlace},
    DataW.TrodAll enc P w base spare held g vs e ps->e.length=g.length
 |[],vs,e,ps,h=>by obtain⟨rfl,rfl,rfl⟩:=trodAll_nil h;rfl
 |t::g,vs,e,ps,h=>by
  obtain⟨v,n,d,j,p,q,rfl,rfl,rfl,o,m⟩:=trodAll_cons h;simp[xJ g m]
theorem Wo {C:Checked} {os:Os} (started:os.Started) {f:FuncId} {d:Func} {s:ChangeSpec} {laid:List (String×DataW Unit)} {O:TypeId} {fresh handsOn:Bool}
  (own:ownKnob C.prog.godebug=none) (n:C.prog.inits.idxOf? f=none) (B:C.prog.funcs[f]?=some d) (D:laidOutB C.prog=true) (E:Xk C.prog d.params.toList=true)
  (y:d.resultTypes= #[O]) (F:C.prog.underlying O=some .bool) (g:s.vars=[])
  (r:∀m:List (DataW H),m.length=d.params.size->s.fn H m={results:=[.lit (.bool true)],args:=m})
  (witness:∃(w:World) (tape:Tape) (i:Input),w.os=os/\(w.forCall tape i).Shaped C.prog/\i.vars=[]/\Input.okWide C.prog (w.forCall tape i) .any w.heap.size f i/\
   ((s.pre enc C.prog d [] false (w.forCall tape i).memory i.args/\laidMetH C.prog laid (w.forCall tape i).memory)/\sizedMet enc C.prog d (OpenSpec.ofChange s) false (w.forCall tape i).memory i.args)/\({}:Assume).holds C.prog (lone (Frame.enter C.prog f i.args .normal) [] (w.forCall tape i)))
  (walk:∀(W:World) (base:Nat) (args:List Value) (m:List (DataW H)) (ps:List MemPlace),DataW.TrodAll enc C.prog W 0 (fun _=>true) true d.params.toList args m ps->
   (∀(j:Nat) t v,d.params[j]?=some t->args[j]?=some v->Value.okWide C.prog W .any base t v)->laidMetH C.prog laid W->Calls C.prog f ⟨args⟩ W fun e I=>e= .returned (.bool true)/\Below W.heap.size W I):
  ReturnsInHanded {} C os f .any (fun w args=>(s.pre enc C.prog d [] false w args/\laidMetH C.prog laid w)/\sizedMet enc C.prog d (OpenSpec.ofChange s) false w args) (s.post enc C.prog d false fresh handsOn false):=by
 refine returnsInHanded_of_change_and (C:=C) (X:=fun w _=>laidMetH C.prog laid w) (fun _ _ _ Y h=>h.of_heap Y) own started n B witness ?_
 intro W base args m gs before z N _ _ T _
 have A:=N
 obtain⟨p,q,hA,J,rfl,V,Z⟩:=N
 rw[g] at J
 obtain⟨rfl,rfl⟩:=trodVars_none J
 have o:=r m (by rw[xJ _ hA];simp)
 obtain⟨args⟩:=args
 refine(walk W base args m p hA (fun j t v Q S=>z j t v Q (by simpa using S)) T).mono fun e I ⟨U,u⟩=>?_
 subst U
 refine⟨_,rfl,m,[],_,[],p,[],A,?_,?_,?_,u.frame _,fun h=>by cases h⟩
 .rw[List.append_nil,o,y];exact trodAll_mk1 (shut_bool F _)
 .rw[List.append_nil,o];exact Nf D u _ E hA
 .rw[List.append_nil,o,g];rfl
theorem hU {k:IntKind} {d:List (Option IntKind)} {l:List Value} (h:Flat (some k::d) l):∃(n:Int) (l':List Value),l= .int k n::l'/\Flat d l':=by
 cases l with
 |nil=>exact h.elim
 |cons v l=>obtain⟨⟨n,rfl,_⟩,h⟩:=h;exact⟨n,l,rfl,h⟩
theorem Dv {l:List Value} (h:Flat [] l):l=[]:=by
 cases l with
 |nil=>rfl
 |cons v l=>exact h.elim
theorem ct {P:Program} {W:World} {base:Nat} {t e:TypeId} {v:Value} {d:DataW H} {p:List MemPlace} {n:Nat} {m:List (Option IntKind)} (u:P.underlying t=some (.slice e)) (A:sG P n e=some m) (hc:P.cellsOf e=m.length) (z:0<m.length)
  (o:Value.okWide P W .any base t v) (h:DataW.Trod enc P W 0 (fun _=>true) true t v d p):∃a len g,v= .slice a len g/\jQ m W a len g:=by
 obtain⟨a,len,g,rfl⟩:=okWide_slice u o
 obtain⟨fuel,B⟩:=h
 obtain⟨D,y,r,j,C⟩:=F1 u A hc z B
 simp[Value.cells] at j
 obtain⟨rfl,rfl,rfl⟩:=j
 exact⟨_,_,_,rfl,C⟩
end
end Go.Ab
section
namespace Go.Ab
noncomputable section
variable {P:Program} {K:FuncId->List Value->Option kA}
theorem fI.cons {a:Ek} {env:List Value} (o:fI a env) {d:Nat} {v:Value} {k:Kn} (y:d<env.length) (hb:∀x,k= .b x->v= .bool x) (z:k= .sk->v=undef):fI ((d,v,k)::a) (env.set d v):=by
 intro t u j g;unfold Ek.lk at g;split at g;rename_i e;have:=Nat.eq_of_beq_eq_true e;grind;rename_i e;obtain⟨m,n⟩:=o t u j g;refine⟨?_,n⟩;rw[List.getElem?_set_ne (fun r=>by simp_all)];exact m
theorem fI.aH0 {a:Ek} {env:List Value} (m:fI a env) {d:Nat} {v:Value} {k _k':Kn} (n:a.lk d=some (v,k)) {b:Bool} (o:v= .bool b):fI ((d,.bool b,.b b)::a) env:=by
 intro t u j h;unfold Ek.lk at h;split at h;rename_i e;have:=Nat.eq_of_beq_eq_true e;subst this;cases h;exact⟨by rw[<-o];exact(m _ _ _ n).1,fun x g=>(by cases g;rfl),fun g=>(by cases g)⟩;exact m t u j h
def Rh (n:Nat) (a:Ek) (d:Option Tmp) (v:Value) (k:Kn) (q:Ek->Prop):Prop:=match d with
 |none=>q a
 |some d=>(match Nat.blt d n with
  |true=>q ((d,v,k)::a)
  |false=>hF)
theorem sD {n:Nat} {a:Ek} {env:List Value} (o:fI a env) (j:env.length=n) {d:Option Tmp} {v:Value} {k:Kn} {q:Ek->Prop} (hb:∀x,k= .b x->v= .bool x) (r:k= .sk->v=undef) (e:Rh n a d v k q):
  ∃m,fI m (jN env d v)/\(jN env d v).length=n/\q m:=by
 unfold Rh at e
 split at e
 .exact⟨a,o,j,e⟩
 .rename_i d;split at e
  .rename_i g;have:d<n:=Nat.le_of_ble_eq_true g;exact⟨_,o.cons (j.symm▸this) hb r,by simp[jN,j],e⟩
  .cases e
def wG (pX:Nat->Option Tmp) (a:Ek) (g:Option (Nat×Bool)) (p s:Ek->Prop):Prop:=match g with
 |none=>p a
 |some (j,want)=>match pX j with
  |none=>hF
  |some d=>match a.lk d with
   |some (_,.b x)=>(match x,want with
    |true,true=>p a
    |false,false=>p a
    |_,_=>s a)
   |some (_,.sk)=>s a
   |some (v,_)=>(match want with
    |true=>Br v (p ((d,.bool true,.b true)::a)) (s ((d,.bool false,.b false)::a))
    |false=>Br v (s ((d,.bool true,.b true)::a)) (p ((d,.bool false,.b false)::a)))
   |none=>hF
theorem aFu {all:Array Oper} {a:Ek} {env:List Value} (m:fI a env) {o:Oper} {p s:Ek->Prop} (e:wG (fun j=>(all[j]?).bind (·.dst)) a o.guard p s):
  ∃u,fI u env/\((aWanted all env o=some true/\p u)\/(aWanted all env o=some false/\s u)):=by
 unfold wG at e
 unfold aWanted
 split at e
 .grind
 .rename_i j want A;rw[A];simp only;split at e
  .cases e
  .rename_i d g;replace g:(all[j]?).bind (·.dst)=some d:=g;rw[g];simp only[Option.bind_some];split at e
   .rename_i x n;obtain⟨r,y,_⟩:=m _ _ _ n;have:=y x rfl;subst this;rw[r];split at e
    .grind
    .grind
    .rename_i C D;refine⟨a,m,.inr ⟨?_,e⟩⟩;cases x<;>cases want<;>grind
   .rename_i n;obtain⟨r,_,y⟩:=m _ _ _ n;have:=y rfl;subst this;rw[r];exact⟨a,m,.inr ⟨rfl,e⟩⟩
   .rename_i v k _ _ n;have r:=(m _ _ _ n).1;rw[r];split at e
    .obtain⟨b,t,B,z⟩:=e;refine⟨_,m.aH0 (_k':= .un) n t,?_⟩;subst t;cases b with
     |true=>grind
     |false=>grind
    .obtain⟨b,t,B,z⟩:=e;refine⟨_,m.aH0 (_k':= .un) n t,?_⟩;subst t;cases b with
     |true=>grind
     |false=>grind
   .cases e
def Zg (a:Ek) (op:Op):Option Operand:=match op with
 |.pick (.tmp c) x y=>(match a.lk c with
  |some (_,.b true)=>some x
  |some (_,.b false)=>some y
  |_=>none)
 |.move x=>some x
 |.assign x=>some x
 |_=>none
theorem Y1 {a:Ek} {env:List Value} (m:fI a env) {op:Op} {x:Operand} (h:Zg a op=some x):kindOf op= .Aa/\∀g,bY P (dC P env) g op=some (dC P env x):=by
 unfold Zg at h;split at h;rename_i c x y;split at h;rename_i j;cases h;obtain⟨d,e,_⟩:=m _ _ _ j;exact⟨rfl,fun g=>by simp[bY,dC,List.getD_eq_getElem?_getD,d,e true rfl]⟩;rename_i j;cases h;obtain⟨d,e,_⟩:=m _ _ _ j;exact⟨rfl,fun g=>by simp[bY,dC,List.getD_eq_getElem?_getD,d,e false rfl]⟩;cases h;cases h;exact⟨rfl,fun _=>rfl⟩;cases h;exact⟨rfl,fun _=>rfl⟩;cases h
def knW (a:Ek) (x:Operand):Kn:=match x with
 |.const (.bool y)=> .b y
 |.tmp t=>(match a.lk t with
  |some (_,.b y)=> .b y
  |_=> .un)
 |_=> .un
theorem so {a:Ek} {env:List Value} (g:fI a env) {x:Operand}:(∀y,knW a x= .b y->dC P env x= .bool y)/\knW a x≠.sk:=by
 unfold knW;split;exact⟨fun y h=>(by cases h;simp[dC,dZ]),fun h=>(by cases h)⟩;split;rename_i j;obtain⟨d,e,_⟩:=g _ _ _ j;exact⟨fun y h=>(by cases h;simp[dC,List.getD_eq_getElem?_getD,d,e _ rfl]),fun h=>(by cases h)⟩;grind;grind
def u9 (M:Nat) (op:Op) (d:Option Tmp) (q:Kn->Prop):Prop:=match op,d with
 |.assign _,_=>hP (q .un)
 |_,some d=>(match Nat.beq (Nat.land (Nat.shiftRight M d) 1) 1 with
  |true=>q .un
  |false=>q .ex)
 |_,none=>q .un
theorem Xv {M:Nat} {op:Op} {d:Option Tmp} {q:Kn->Prop} (h:u9 M op d q):q .un\/q .ex:=by
 unfold u9 at h;split at h;exact .inl h;grind;exact .inl h
def wKn (M:Nat) (op:Op) (d:Option Tmp) (a:Ek) (x:Operand) (q:Kn->Prop):Prop:=match knW a x with
 |.b y=>q (.b y)
 |_=>u9 M op d q
theorem aBp {M:Nat} {op:Op} {d:Option Tmp} {a:Ek} {x:Operand} {q:Kn->Prop} (h:wKn M op d a x q):(∃y,knW a x= .b y/\q (.b y))\/q .un\/q .ex:=by
 unfold wKn at h;split at h;grind;exact .inr (Xv h)
def ups:Op->List Operand
 |.move x|.assign x|.load _ x|.nilCheck x|.unOp _ _ x|.convert _ _ x|.fieldAddr _ x _|.field _ x _|.box _ x=>[x]
 |.store _ x y|.binOp _ _ x y _|.indexAddr _ x y|.index _ x y=>[x,y]
 |.slice _ x e d g=>x::(e.toList++(d.toList++g.toList))
 |.call c=>c.args.toList
 |_=>[]
def rmK (t:Nat):Ek->(Ek->Prop)->Prop
 |[],q=>hP (q [])
 |(d,v,k)::a,q=>(match Nat.beq d t with
  |true=>(match k with
   |.ex=>q ((d,undef,.no)::a)
   |k=>q ((d,v,k)::a))
  |false=>rmK t a fun a=>q ((d,v,k)::a))
theorem aBu {t:Nat}:∀{a:Ek} {q:Ek->Prop},rmK t a q->∃e,(∀x r,Ek.lk e x=some r->a.lk x=some r)/\q e
 |[],_,h=>⟨_,fun _ _ h=>h,h⟩
 |(m,v,k)::a,q,h=>by
  unfold rmK at h;split at h;split at h;refine⟨_,fun x r d=>?_,h⟩;unfold Ek.lk at d ⊢;grind;grind;obtain⟨a1,j,g⟩:=aBu h;refine⟨_,fun x r d=>?_,g⟩;unfold Ek.lk at d ⊢;grind
def il:List Operand->Ek->(Ek->Prop)->Prop
 |[],a,q=>hP (q a)
 |x::l,a,q=>(match x with
  |.tmp t=>rmK t a fun a=>il l a q
  |_=>il l a q)
theorem O7 {env:List Value}:∀{l:List Operand} {a:Ek} {q:Ek->Prop},fI a env->il l a q->∃e,fI e env/\q e
 |[],a,_,d,h=>⟨a,d,h⟩
 |x::l,a,q,d,h=>by
  unfold il at h;split at h;obtain⟨a1,g,j⟩:=aBu h;exact O7 (l:=l) (fun t v k m=>d t v k (g _ _ m)) j;exact O7 (l:=l) d h
def wOp (P:Program) (K:FuncId->List Value->Option kA) (a:Ek) (h:AH) (q:Value->AH->Prop) (op:Op):Prop:=match kindOf op with
 |.Aa=>wL P a h (fun v=>q v h) op
 |.alloc=>wA P a (B4 h) (uX h) q op
 |.store=>wH P K a h q op
 |.call=>wH P K a h q op
 |.other=>hF
theorem aB0 {a:Ek} {env:List Value} (g:fI a env) {h:AH} {q:Value->AH->Prop} {op:Op} (d:wOp P K a h q op):∃n v j,opStep P (run P K n) env h op=some (v,j)/\q v j:=by
 refine Wd ?_;unfold wOp at d;unfold wpOp;split at d<;>(rename_i o;simp only[o]);exact aH4 g d;exact aGo g (fun W e l n c k m=>m) d;exact aBx g d;exact aBx g d;exact d
def aC6 (P:Program) (K:FuncId->List Value->Option kA) (M n:Nat) (pX:Nat->Option Tmp) (o:Oper) (d:Ek->AH->(Ek->AH->Prop)->Prop) (a:Ek) (h:AH) (q:Ek->AH->Prop):Prop:=match o with
 |⟨dst,op,_,_,_,guard⟩=>wG pX a guard
  (fun a=>il (ups op) a fun e=>(match Zg a op with
   |some x=>wKn M op dst a x fun k=>vK P a x fun v=>Rh n e dst v k fun a=>d a h q
   |none=>u9 M op dst fun k=>wOp P K a h (fun v g=>Rh n e dst v k fun a=>d a g q) op))
  (fun a=>Rh n a dst undef .sk fun a=>d a h q)
def yg (P:Program) (K:FuncId->List Value->Option kA) (M n:Nat) (pX:Nat->Option Tmp) (os:List Oper):Ek->AH->(Ek->AH->Prop)->Prop:=
 List.rec (fun a h q=>q a h) (fun o _ d=>aC6 P K M n pX o d) os
theorem aH5 {M n:Nat} {op:Op} {dst:Option Tmp} {a m:Ek} {env:List Value} {x:Operand} {q:Ek->Prop} (g:fI a env) (d:fI m env) (j:env.length=n) (hb:wKn M op dst a x fun k=>vK P a x fun v=>Rh n m dst v k q):
  ∃o,fI o (jN env dst (dC P env x))/\(jN env dst (dC P env x)).length=n/\q o:=by
 obtain⟨t,_⟩:=so (P:=P) (x:=x) g
 rcases aBp hb with⟨y,r,hb⟩|hb|hb
 .exact sD d j (fun z e=>by grind) (fun e=>by cases e) (fD g hb)
 .exact sD d j (fun _ e=>by cases e) (fun e=>by cases e) (fD g hb)
 .exact sD d j (fun _ e=>by cases e) (fun e=>by cases e) (fD g hb)
theorem W8 {M n:Nat} {all:Array Oper}:∀{os:List Oper} {a:Ek} {env:List Value} {h:AH} {q:Ek->AH->Prop},fI a env->env.length=n->yg P K M n (fun j=>(all[j]?).bind (·.dst)) os a h q->
  ∃m o C z,run P K m (.ops all os env) h=some (o,C)/\fI z o.env/\o.env.length=n/\q z C
 |[],a,env,h,q,O,D,N=>⟨1,_,h,a,rfl,O,D,N⟩
 |o::os,a,env,h,q,O,D,N=>by
  change aC6 P K M n (fun j=>(all[j]?).bind (·.dst)) o (yg P K M n (fun j=>(all[j]?).bind (·.dst)) os) a h q at N;unfold aC6 at N;obtain⟨a1,g,hb⟩:=aFu (o:=o) O N;rcases hb with⟨d,hb⟩|⟨d,hb⟩;obtain⟨z,A,hb⟩:=O7 g hb;obtain⟨r,v,E,y,W,Q,S,B⟩:∃r v E y,opStep P (run P K r) env h o.op=some (v,E)/\fI y (jN env o.dst v)/\(jN env o.dst v).length=n/\yg P K M n (fun j=>(all[j]?).bind (·.dst)) os y E q:=by
   split at hb;rename_i x Z;obtain⟨X,Y⟩:=Y1 (P:=P) g Z;obtain⟨y,F,I,J⟩:=aH5 g A D hb;exact⟨0,_,h,y,by simp only[opStep,X,Y];rfl,F,I,J⟩;rcases Xv hb with hb|hb;obtain⟨r,v,E,W,T⟩:=aB0 g hb;obtain⟨y,F,I,J⟩:=sD A D (fun _ e=>by cases e) (fun e=>by cases e) T;grind;obtain⟨r,v,E,W,T⟩:=aB0 g hb;obtain⟨y,F,I,J⟩:=sD A D (fun _ e=>by cases e) (fun e=>by cases e) T;grind
  obtain⟨u,out,C,z,V,U⟩:=W8 Q S B;refine⟨max r u+1,out,C,z,?_,U⟩;show vJ P (fun t h=>run P K (max r u) t h) all (o::os) env h=_;simp only[vJ,d];rw[show(fun t h=>run P K (max r u) t h)=run P K (max r u) from rfl,M6 (lD (Nat.le_max_left r u)) W];exact lD (Nat.le_max_right r u) _ _ _ V;obtain⟨y,F,I,J⟩:=sD g D (fun _ e=>by cases e) (fun _=>rfl) hb;obtain⟨u,out,C,z,V,U⟩:=W8 F I J;refine⟨u+1,out,C,z,?_,U⟩;show vJ P (fun t h=>run P K u t h) all (o::os) env h=_;simp only[vJ,d];exact V
end
end Go.Ab
end
section
namespace Go.Ab
noncomputable section
variable {P:Program} {K:FuncId->List Value->Option kA}
def wLV (P:Program) (a:Ek) (h:AH) (q:Value->Prop):Op->Prop
 |.call c=>(match c.callee with
  |.builtin b=>(match iN b with
   |true=>U2 P a c.args.toList fun l=>wBI P h (fun v _=>q v) c.argTypes b l
   |false=>hF)
  |_=>hF)
 |op=>wL P a h q op
theorem aBm {a:Ek} {env:List Value} (m:fI a env) {h:AH} {q:Value->Prop} {op:Op} (d:wLV P a h q op):iQ op=true/\∃v,eK P (dC P env) h op=some v/\q v:=by
 unfold wLV at d;split at d;split at d;rename_i n;split at d;rename_i o;obtain⟨v,r,e,g⟩:=yP (aB7 (C2 m d));exact⟨by simp[iQ,n,o],v,by simp only[eK,n,o,if_true,e];rfl,g⟩;cases d;cases d
 .obtain⟨j,v,e,g⟩:=Ce (aH4 m d);refine⟨?_,v,?_,g⟩
  .cases op<;>first|(simp[iQ,j];done)|(simp[kindOf] at j)
  cases op<;>first|exact e|(simp[kindOf] at j)
structure WR where
 a:Ek
 h:AH
 v:Value
 ran:Bool
def wDO (P:Program) (K:FuncId->List Value->Option kA) (i r:Nat) (a:Ek) (h:AH) (q:Value->AH->Prop) (op:Op):Prop:=
 match iQ op with
 |true=>wLV P a h (fun v=>q v h) op
 |false=>(match kindOf op with
  |.alloc=>(match i with
   |0=>wA P a (mA h r) (lK h r) q op
   |i=>wA P a (mA h (r+i)) (lK h (r+i)) q op)
  |_=>wH P K a h q op)
theorem aBf {all:List Oper} {r i:Nat} {a:Ek} {env:List Value} (B:fI a env) {h:AH} {q:Value->AH->Prop} {o:Oper} (d:aWanted ⟨all⟩ env o=some true) (t:wDO P K i r a h q o.op):
  ∃n v m,drawStep P (run P K n) all r i env h o=some (v,m)/\q v m:=by
 unfold wDO at t
 unfold drawStep
 simp only[d]
 split at t
 .rename_i A;obtain⟨_,v,u,y⟩:=aBm B t;exact⟨0,v,h,by simp[A,u],y⟩
 .rename_i A;split at t
  .rename_i C;have z:∀{j:Nat},wA P a (mA h j) (lK h j) q o.op->j=r+i->∃n v m,drawStep P (run P K n) all r i env h o=some (v,m)/\q v m:=by
    intro j E e;subst e;obtain⟨_,b,f,u,y⟩:=B7 (aGo B (fun W e l n c k D=>D) E);exact⟨0,_,_,by simp[drawStep,d,A,C,u],y⟩
   have:=(show∃n v m,drawStep P (run P K n) all r i env h o=some (v,m)/\q v m by
    split at t;exact z t rfl;exact z t rfl)
   unfold drawStep at this
   simpa only[d] using this
  .obtain⟨C,n,v,m,u,y⟩:=vG (fun g=>rfl) (aBx B t);refine⟨n,v,m,?_,y⟩;have:(kindOf o.op==Kind.alloc)=false:=by rcases C with h|h<;>rw[h]<;>rfl
   simp[this,A,u]
def Uz:List (Nat×Nat)->Nat->Bool
 |[],_=>false
 |(a,_)::l,i=>(match Nat.beq a i with
  |true=>true
  |false=>Uz l i)
def wMd (d:List (Nat×Nat)) (i:Nat) (a:Ek) (rs:List WR) (k:(AH->Value->Bool->(List WR->Prop)->Prop)->Prop):Prop:=match d with
 |[]=>hP (k fun _ _ _ q=>q rs)
 |d=>(match Uz d i with
  |true=>k fun h v r q=>q (⟨a,h,v,r⟩::rs)
  |false=>k fun h _ _ q=>q (⟨[],h,undef,true⟩::rs))
def Rl (d:List (Nat×Nat)):List WR->List WR->Prop
 |[],[]=>True
 |x::e,y::gs=>(x=y\/Uz d gs.length=false/\x.h=y.h)/\Rl d e gs
 |_,_=>False
theorem aBk {g:List (Nat×Nat)} {a:Ek} {rs gs:List WR} {i:Nat} {k:(AH->Value->Bool->(List WR->Prop)->Prop)->Prop} (o:gs.length=i) (n:g≠[]->Rl g rs gs) (d:wMd g i a rs k):
  ∃R,k R/\∀h v r q,R h v r q->∃m,(g≠[]->Rl g m (⟨a,h,v,r⟩::gs))/\q m:=by
 unfold wMd at d
 split at d
 .exact⟨_,d,fun h v r q j=>⟨rs,fun e=>absurd rfl e,j⟩⟩
 .split at d
  .exact⟨_,d,fun h v r q j=>⟨⟨a,h,v,r⟩::rs,fun e=>⟨.inl rfl,n e⟩,j⟩⟩
  .rename_i t;exact⟨_,d,fun h v r q j=>⟨⟨[],h,undef,true⟩::rs,fun e=>⟨.inr ⟨by rw[o];exact t,rfl⟩,n e⟩,j⟩⟩
theorem o9 {n:List (Nat×Nat)}:∀{rs gs:List WR},Rl n rs gs->rs.length=gs.length/\∀(j:Nat) (x y:WR),rs.reverse[j]?=some x->gs.reverse[j]?=some y->x=y\/Uz n j=false/\x.h=y.h
 |[],[],_=>⟨rfl,fun j x y v=>by simp at v⟩
 |x::rs,y::gs,h=>by
  obtain⟨o,r⟩:=h;obtain⟨m,t⟩:=o9 r;refine⟨by simp[m],fun j u w e d=>?_⟩;rw[List.reverse_cons] at e d;rcases Nat.lt_trichotomy j gs.length with g|g|g;rw[List.getElem?_append_left (by simpa [m] using g)] at e;rw[List.getElem?_append_left (by simpa using g)] at d;exact t j u w e d;subst g;rw[List.getElem?_append_right (by simp[m])] at e;rw[List.getElem?_append_right (by simp)] at d;simp[m] at e d;subst e;subst d;exact o;rw[List.getElem?_eq_none (by simp;omega)] at d;cases d
def wDF (P:Program) (K:FuncId->List Value->Option kA) (M n:Nat) (pX:Nat->Option Tmp) (r:Nat) (g:List (Nat×Nat)) (o:Oper) (e:Nat->Ek->AH->List WR->(List WR->Ek->AH->Prop)->Prop) (i:Nat) (a:Ek) (h:AH) (rs:List WR) (q:List WR->Ek->AH->Prop):Prop:=match o with
 |⟨dst,op,_,_,_,guard⟩=>nK (i+1) fun j=>wG pX a guard
  (fun a=>wMd g i a rs fun R=>il (ups op) a fun d=>(match Zg a op with
   |some x=>wKn M op dst a x fun k=>vK P a x fun v=>Rh n d dst v k fun d=>R h v true fun rs=>e j d h rs q
   |none=>u9 M op dst fun k=>wDO P K i r a h (fun v m=>Rh n d dst v k fun d=>R h v true fun rs=>e j d m rs q) op))
  (fun a=>wMd g i a rs fun R=>Rh n a dst undef .sk fun d=>R h undef false fun rs=>e j d h rs q)
def wDT (P:Program) (K:FuncId->List Value->Option kA) (M n:Nat) (pX:Nat->Option Tmp) (r:Nat) (d:List (Nat×Nat)) (os:List Oper):Nat->Ek->AH->List WR->(List WR->Ek->AH->Prop)->Prop:=
 List.rec (fun _ a h g q=>q g a h) (fun o _ e=>wDF P K M n pX r d o e) os
def Zi (all:List Oper) (rs:List WR) (es:List (List Value)):Prop:=rs.length=es.length/\∀(i:Nat) (o:Oper) (x:WR) (e:List Value),all[i]?=some o->rs[i]?=some x->es[i]?=some e->fI x.a e/\aWanted ⟨all⟩ e o=some x.ran
theorem Zi.snoc {all:List Oper} {rs:List WR} {es:List (List Value)} (n:Zi all rs es) {o:Oper} {x:WR} {e:List Value} (v:all[rs.length]?=some o) (t:fI x.a e) (u:aWanted ⟨all⟩ e o=some x.ran):Zi all (rs++[x]) (es++[e]):=by
 refine⟨by simp[n.1],fun i y z r d g j=>?_⟩;rcases Nat.lt_trichotomy i rs.length with m|m|m;rw[List.getElem?_append_left m] at g;rw[List.getElem?_append_left (n.1▸m)] at j;exact n.2 i y z r d g j;subst m;rw[v] at d;cases d;simp at g;subst g;rw[n.1] at j;simp at j;subst j;exact⟨t,u⟩;rw[List.getElem?_eq_none (by simp;omega)] at g;cases g
theorem Y0 {M n:Nat} {all:List Oper} {r:Nat} {E:List (Nat×Nat)}:∀{os:List Oper} {i:Nat} {a:Ek} {env:List Value} {h:AH} {rs gs:List WR} {es:List (List Value)} {q:List WR->Ek->AH->Prop},fI a env->env.length=n->gs.length=i->(∀j,all[i+j]?=os[j]?)->Zi all gs.reverse es->(E≠[]->Rl E rs gs)->
  wDT P K M n (fun j=>((⟨all⟩:Array Oper)[j]?).bind (·.dst)) r E os i a h rs q->
  ∃m B C e h' X,drawText P (run P K m) all r i os env h=some (List.zipWith (fun x e=>⟨e,x.h,x.v⟩) B C,e,h')/\B.length=C.length/\Zi all (gs.reverse++B) (es++C)/\fI X e/\e.length=n/\∃t,(E≠[]->Rl E t (B.reverse++gs))/\q t X h'
 |[],i,a,env,h,rs,gs,es,q,ha,V,_,_,T,hg,W=>⟨0,[],[],env,h,a,rfl,rfl,by simpa using T,ha,V,rs,by simpa using hg,W⟩
 |o::os,i,a,env,h,rs,gs,es,q,ha,V,A,U,T,hg,W=>by
  have W:wDF P K M n (fun j=>((⟨all⟩:Array Oper)[j]?).bind (·.dst)) r E o (wDT P K M n (fun j=>((⟨all⟩:Array Oper)[j]?).bind (·.dst)) r E os) i a h rs q:=W;unfold wDF at W;have W:=qy W;obtain⟨a1,g,hb⟩:=aFu (o:=o) ha W;have ho:all[gs.reverse.length]?=some o:=by have:=U 0;rw[List.length_reverse,A];simpa using this
  have N:∀j,all[i+1+j]?=os[j]?:=fun j=>by
   have:=U (j+1);rw[show i+1+j=i+(j+1) by omega,this];simp
  rcases hb with⟨d,hb⟩|⟨d,hb⟩
  .obtain⟨R,hb,hR⟩:=aBk A hg hb;obtain⟨Q,v,S,u,hs,ε,θ,t,Z,δ⟩:∃Q v S u,drawStep P (run P K Q) all r i env h o=some (v,S)/\fI u (jN env o.dst v)/\(jN env o.dst v).length=n/\
     ∃t,(E≠[]->Rl E t (⟨a1,h,v,true⟩::gs))/\wDT P K M n (fun j=>((⟨all⟩:Array Oper)[j]?).bind (·.dst)) r E os (i+1) u S t q:=by
    obtain⟨X,J,hb⟩:=O7 g hb
    split at hb
    .rename_i x hx;obtain⟨hk,hl⟩:=Y1 (P:=P) g hx;have ζ:iQ o.op=true:=by
      cases hop:o.op<;>rw[hop] at hk<;>first|(simp[iQ,kindOf];done)|(simp[kindOf] at hk)
     have η:eK P (dC P env) h o.op=some (dC P env x):=by
      have:=hl h;cases hop:o.op<;>rw[hop] at hk this<;>first|exact this|(simp[kindOf] at hk)
     have fin:∀{u:Ek} {v:Value},v=dC P env x->fI u (jN env o.dst (dC P env x))->(jN env o.dst (dC P env x)).length=n->R h v true (fun rs=>wDT P K M n (fun j=>((⟨all⟩:Array Oper)[j]?).bind (·.dst)) r E os (i+1) u h rs q)->
       ∃Q v S u,drawStep P (run P K Q) all r i env h o=some (v,S)/\fI u (jN env o.dst v)/\(jN env o.dst v).length=n/\∃t,(E≠[]->Rl E t (⟨a1,h,v,true⟩::gs))/\wDT P K M n (fun j=>((⟨all⟩:Array Oper)[j]?).bind (·.dst)) r E os (i+1) u S t q:=by
      intro u v e F I D
      subst e
      exact⟨0,_,h,u,by simp[drawStep,d,ζ,η],F,I,hR _ _ _ _ D⟩
     obtain⟨k1,_⟩:=so (P:=P) (x:=x) g
     rcases aBp hb with⟨y,hy,hb⟩|hb|hb
     .have hb:=fD g hb;obtain⟨u,F,I,D⟩:=sD J V (fun z e=>by cases e;exact k1 _ hy) (fun e=>by cases e) hb;exact fin rfl F I D
     .have hb:=fD g hb;obtain⟨u,F,I,D⟩:=sD J V (fun _ e=>by cases e) (fun e=>by cases e) hb;exact fin rfl F I D
     .have hb:=fD g hb;obtain⟨u,F,I,D⟩:=sD J V (fun _ e=>by cases e) (fun e=>by cases e) hb;exact fin rfl F I D
    .rcases Xv hb with hb|hb
     .obtain⟨Q,v,S,hs,hp⟩:=aBf g d hb;obtain⟨u,F,I,D⟩:=sD J V (fun _ e=>by cases e) (fun e=>by cases e) hp;exact⟨Q,v,S,u,hs,F,I,hR _ _ _ _ D⟩
     .obtain⟨Q,v,S,hs,hp⟩:=aBf g d hb;obtain⟨u,F,I,D⟩:=sD J V (fun _ e=>by cases e) (fun e=>by cases e) hp;exact⟨Q,v,S,u,hs,F,I,hR _ _ _ _ D⟩
   obtain⟨n2,B,C,e,h',X,hr,β,O,Y,γ,hq⟩:=Y0 (i:=i+1) ε θ (by simp[A]) N (by rw[List.reverse_cons];exact T.snoc (x:=⟨a1,h,v,true⟩) ho g d) Z δ;refine⟨max Q n2,⟨a1,h,v,true⟩::B,env::C,e,h',X,?_,by simp[β],by simpa using O,Y,γ,by simpa using hq⟩;simp only[drawText,Hc (lD (Nat.le_max_left Q n2)) hs,zO (lD (Nat.le_max_right Q n2)) _ hr];rfl
  obtain⟨R,hb,hR⟩:=aBk A hg hb;obtain⟨u,F,I,D⟩:=sD g V (fun _ e=>by cases e) (fun _=>rfl) hb;obtain⟨t,Z,D⟩:=hR _ _ _ _ D;obtain⟨n2,B,C,e,h',X,hr,β,O,Y,γ,hq⟩:=Y0 (i:=i+1) F I (by simp[A]) N (by rw[List.reverse_cons];exact T.snoc (x:=⟨a1,h,undef,false⟩) ho g d) Z D;refine⟨n2,⟨a1,h,undef,false⟩::B,env::C,e,h',X,?_,by simp[β],by simpa using O,Y,γ,by simpa using hq⟩;have hs:drawStep P (run P K n2) all r i env h o=some (undef,h):=by simp only[drawStep,d]
  simp only[drawText,hs,hr];rfl
def cz (P:Program) (all:List Oper) (rs:List WR) (hEnd:AH) (x:Nat×Nat) (d:Prop->Prop) (p:Prop):Prop:=match x with
 |(i,s)=>(match all[i]?,rs[i]? with
  |some o,some ⟨a,_,v,true⟩=>(match rs[s]? with
   |some ⟨_,h,_,_⟩=>wLV P a h (fun x=>pY x v=true) o.op/\d p
   |none=>wLV P a hEnd (fun x=>pY x v=true) o.op/\d p)
  |some _,some ⟨_,_,_,false⟩=>d p
  |_,_=>hF)
def yc (P:Program) (all:List Oper) (rs:List WR) (hEnd:AH) (fs:List (Nat×Nat)):Prop->Prop:=List.rec (fun p=>p) (fun x _ d=>cz P all rs hEnd x d) fs
theorem pe {all:List Oper} {rs:List WR} {es:List (List Value)} {hEnd:AH} (g:Zi all rs es) {p:Prop}:∀{fs:List (Nat×Nat)},yc P all rs hEnd fs p->(fs.all (floatOk P all (List.zipWith (fun x e=>⟨e,x.h,x.v⟩) rs es) hEnd)=true)/\p
 |[],m=>⟨rfl,m⟩
 |(i,s)::fs,m=>by
  change cz P all rs hEnd (i,s) (yc P all rs hEnd fs) p at m;unfold cz at m;simp only at m;have E:∀{j:Nat} {x:WR},rs[j]?=some x->∃e,es[j]?=some e/\(List.zipWith (fun x e=>(⟨e,x.h,x.v⟩:Rec)) rs es)[j]?=some ⟨e,x.h,x.v⟩:=by
   intro j x n;have J:j<es.length:=by rw[<-g.1];exact(List.getElem?_eq_some_iff.1 n).1
   exact⟨es[j],by simp[J],by simp[List.getElem?_zipWith,n,J]⟩
  split at m;rename_i o a h v t n;obtain⟨e,B,r⟩:=E n;obtain⟨I,d⟩:=g.2 i o _ e t n B;have fin:∀{y:AH},(match(List.zipWith (fun x e=>(⟨e,x.h,x.v⟩:Rec)) rs es)[s]? with|some q=>q.h|none=>hEnd)=y->wLV P a y (fun x=>pY x v=true) o.op/\yc P all rs hEnd fs p->(((i,s)::fs).all (floatOk P all (List.zipWith (fun x e=>⟨e,x.h,x.v⟩) rs es) hEnd)=true)/\p:=by
   intro y C ⟨N,O⟩;obtain⟨z,A⟩:=pe g O;refine⟨?_,A⟩;obtain⟨_,u,Q,S⟩:=aBm I N;rw[List.all_cons,z,Bool.and_true];cases hc:(List.zipWith (fun x e=>(⟨e,x.h,x.v⟩:Rec)) rs es)[s]?<;>(rw[hc] at C;simp only at C;subst C;simp only[floatOk,t,r,d,hc,Q,S])
  split at m;rename_i D;obtain⟨T,_,F⟩:=E D;exact fin (by rw[F]) m;rename_i D;have:(List.zipWith (fun x e=>(⟨e,x.h,x.v⟩:Rec)) rs es)[s]?=none:=by simp[List.getElem?_zipWith,D]
  exact fin (by rw[this]) m;rename_i o a h v t n;obtain⟨e,B,r⟩:=E n;obtain⟨I,d⟩:=g.2 i o _ e t n B;obtain⟨z,A⟩:=pe g m;refine⟨?_,A⟩;rw[List.all_cons,z,Bool.and_true];simp only[floatOk,t,r,d];cases m
def feq:List (Nat×Nat)->List (Nat×Nat)->Bool
 |[],[]=>true
 |(a,b)::l,(c,d)::m=>Nat.beq a c&&(Nat.beq b d&&feq l m)
 |_,_=>false
theorem aB1:∀{l m:List (Nat×Nat)},feq l m=true->l=m
 |[],[],_=>rfl
 |(a,b)::l,(c,d)::m,h=>by
  simp only[feq,Bool.and_eq_true] at h;rw[Nat.eq_of_beq_eq_true h.1,Nat.eq_of_beq_eq_true h.2.1,aB1 h.2.2]
 |[],_::_,h=>by cases h
 |_::_,[],h=>by cases h
def aBv (P:Program) (ops:Array Oper) (d:List (Nat×Nat)):Bool:=Lg ops.toList&&(P.follows .mixedOrders|| !Region.departs ops)&&feq (F6 ops.toList) d
def xg:List (Nat×List (Nat×Nat))->Nat->(List (Nat×Nat)->Prop)->Prop
 |[],_,q=>hP (q [])
 |(i,l)::F,id,q=>(match Nat.beq i id with
  |true=>q l
  |false=>xg F id q)
theorem qn:∀{F:List (Nat×List (Nat×Nat))} {id:Nat} {q:List (Nat×Nat)->Prop},xg F id q->∃l,q l
 |[],_,_,h=>⟨_,h⟩
 |_::F,_,_,h=>by
  unfold xg at h;split at h;exact⟨_,h⟩;exact qn (F:=F) h
theorem Nv {all:List Oper} {rs gs:List WR} {hEnd:AH} {p:Prop} {z:List (Nat×Nat)} (n:rs.length=gs.length) (u:∀(j:Nat) (x y:WR),rs[j]?=some x->gs[j]?=some y->x=y\/Uz z j=false/\x.h=y.h):
  ∀{fs:List (Nat×Nat)},(∀x∈fs,Uz z x.1=true)->yc P all rs hEnd fs p->yc P all gs hEnd fs p
 |[],_,e=>e
 |(i,s)::fs,B,e=>by
  change cz P all rs hEnd (i,s) (yc P all rs hEnd fs) p at e;show cz P all gs hEnd (i,s) (yc P all gs hEnd fs) p;have v:=Nv (hEnd:=hEnd) (all:=all) (p:=p) n u (fs:=fs) fun x D=>B x (List.mem_cons_of_mem _ D);have C:rs[i]?=gs[i]?:=by
   have t:=B (i,s) List.mem_cons_self;rcases Nat.lt_or_ge i rs.length with d|o;have A:rs[i]?=some rs[i]:=List.getElem?_eq_getElem d;have m:gs[i]?=some (gs[i]'(n▸d)):=List.getElem?_eq_getElem _;rcases u i _ _ A m with g|⟨g,_⟩;rw[A,m,g];rw[t] at g;cases g;rw[List.getElem?_eq_none o,List.getElem?_eq_none (n▸o)]
  unfold cz at e ⊢;simp only at e ⊢;rw[<-C];split at e;split at e;rename_i a1 t v1 E r;have d:s<rs.length:=(List.getElem?_eq_some_iff.1 r).1;have m:gs[s]?=some (gs[s]'(n▸d)):=List.getElem?_eq_getElem _;have g:t=(gs[s]'(n▸d)).h:=by
   rcases u s _ _ r m with g|⟨_,g⟩;rw[<-g];exact g
  rw[m];generalize gs[s]'(n▸d)=y at g;subst g;exact⟨e.1,v e.2⟩;rename_i r;have m:gs[s]?=none:=by
   rw[List.getElem?_eq_none_iff] at r ⊢;omega
  rw[m];exact⟨e.1,v e.2⟩;exact v e;cases e
theorem vz:∀{d:List (Nat×Nat)} {x:Nat×Nat},x∈d->Uz d x.1=true
 |(a,b)::l,x,h=>by
  unfold Uz;split;rfl;rename_i e;rcases List.mem_cons.1 h with rfl|h;rw[Nat.beq_refl] at e;cases e;exact vz h
def rvK (q:List WR->Prop):List WR->List WR->Prop
 |[],acc=>hP (q acc)
 |x::l,acc=>rvK q l (x::acc)
theorem aBh {q:List WR->Prop}:∀{l acc:List WR},rvK q l acc->q (l.reverse++acc)
 |[],_,h=>h
 |x::l,acc,h=>by have:=aBh (l:=l) h;simpa using this
def aBj (P:Program) (K:FuncId->List Value->Option kA) (M n:Nat) (F:List (Nat×List (Nat×Nat))) (id:Nat) (ops:Array Oper) (a:Ek) (h:AH) (q:Ek->AH->Prop):Prop:=
 xg F id fun d=>nK ops.size fun m=>P3 (aBv P ops d) h m fun r t=>(match d with
  |[]=>wDT P K M n (fun j=>(ops[j]?).bind (·.dst)) r [] ops.toList 0 a t [] fun _ g e=>q g e
  |d=>wDT P K M n (fun j=>(ops[j]?).bind (·.dst)) r d ops.toList 0 a t [] fun o g e=>rvK (fun o=>yc P ops.toList o e d (q g e)) o [])
theorem aAl {M n:Nat} {F:List (Nat×List (Nat×Nat))} {id:Nat} {ops:Array Oper} {a:Ek} {env:List Value} (W:fI a env) (X:env.length=n) {h:AH} {q:Ek->AH->Prop} (B:aBj P K M n F id ops a h q):∃m e t u,uU P (run P K m) ops env h=some (e,t)/\fI u e/\e.length=n/\q u t:=by
 obtain⟨fl,B⟩:=qn B;obtain⟨D,B⟩:=qy B;unfold aBv at D;rw[Bool.and_eq_true] at D;have J:=aB1 D.2;subst J;obtain⟨m,d,g,e,t,u,C,E,z,v,y,A⟩:∃m d g e t u,drawText P (run P K m) ops.toList h.next 0 ops.toList env {h with next:=h.next+ops.size}=some (List.zipWith (fun x e=>⟨e,x.h,x.v⟩) d g,e,t)/\d.length=g.length/\Zi ops.toList d g/\fI u e/\e.length=n/\yc P ops.toList d t (F6 ops.toList) (q u t):=by
  have S:Zi ops.toList ([]:List WR).reverse []:=⟨rfl,fun i o x e _ O=>by simp at O⟩;split at B;rename_i I;obtain⟨m,d,g,e,t,u,C,E,z,v,y,Q,_,A⟩:=Y0 (all:=ops.toList) (r:=h.next) (i:=0) (gs:=[]) (es:=[]) W X rfl (fun j=>by simp) S (fun e=>absurd rfl e) B;exact⟨m,d,g,e,t,u,C,E,by simpa using z,v,y,by rw[I];exact A⟩;rename_i I;obtain⟨m,d,g,e,t,u,C,E,z,v,y,Q,N,A⟩:=Y0 (all:=ops.toList) (r:=h.next) (i:=0) (rs:=[]) (gs:=[]) (es:=[]) W X rfl (fun j=>by simp) S (fun _=>trivial) B;have T:=N (fun e=>I e);rw[List.append_nil] at T;obtain⟨Y,Z⟩:=o9 T;have U:=aBh A;rw[List.append_nil] at U;have V:=Nv (by simpa using Y) Z (fun x O=>vz O) U;rw[List.reverse_reverse] at V;exact⟨m,d,g,e,t,u,C,E,by simpa using z,v,y,V⟩
 obtain⟨hf,A⟩:=pe z A;refine⟨m,e,t,u,?_,v,y,A⟩;unfold uU;rw[aKj D.1,C];simp only;rw[aKj hf]
end
end Go.Ab
end
section
namespace Go.Ab
noncomputable section
variable {P:Program} {K:FuncId->List Value->Option kA}
inductive It where
 |code (p:List Nat) (c:Code)|inBlock (id:Nat)|inLoop (p:List Nat) (b:Code)|inScope (b:Code)|beginRound
def It.it:It->Item
 |.code _ c=> .code c
 |.inBlock id=> .inBlock id
 |.inLoop _ b=> .inLoop b
 |.inScope b=> .inScope b
 |.beginRound=> .beginRound
abbrev Er (k:List It):List Item:=k.map It.it
def oP (b:Nat) (p:List Nat) (x:Code×List It):Code×List It:=match x.1,b with
 |.seq c d,0=>(c,.code (1::p) d::x.2)
 |.seq _ d,1=>(d,x.2)
 |.cond _ t _,0=>(t,x.2)
 |.cond _ _ e,1=>(e,x.2)
 |.block id c,0=>(c,.inBlock id::x.2)
 |.loop c,0=>(c,.inLoop (0::p) c::x.2)
 |.scope c,0=>(c,.inScope c::x.2)
 |.rangeFunc _ _ a c,0=>(a,[.beginRound,.code (1::p) c])
 |.rangeFunc _ _ _ c,1=>(c,[])
 |_,_=>(.skip,[])
def ctx (P:Program) (f:FuncId):List Nat->Code×List It
 |[]=>((Jv P f).getD .skip,[])
 |b::p=>oP b p (ctx P f p)
def Good (P:Program) (f:FuncId):List It->Prop
 |[]=>True
 |.code p c::k=>ctx P f p=(c,k)/\Good P f k
 |.inLoop p b::k=>ctx P f p=(b,.inLoop p b::k)/\Good P f k
 |_::k=>Good P f k
def uQ (id:Nat):List It->Option (List It)
 |[]=>none
 |.inBlock i::k=>(match Nat.beq i id with
  |true=>some k
  |false=>uQ id k)
 |_::k=>uQ id k
theorem uK {f:FuncId} {id:Nat}:∀{k k':List It},uQ id k=some k'->exitTo id (Er k)=some (Er k')/\(Good P f k->Good P f k')
 |[],_,h=>by cases h
 |x::k,k',h=>by
  cases x with
  |inBlock i=>
   unfold uQ at h;split at h;rename_i e;cases h;have:=Nat.eq_of_beq_eq_true e;subst this;exact⟨by simp[Er,It.it,exitTo],fun g=>g⟩;rename_i e;obtain⟨d,j⟩:=uK (f:=f) h;refine⟨?_,fun g=>j g⟩;have:(i==id)=false:=by simpa using Nat.ne_of_beq_eq_false e
   simpa [Er,It.it,exitTo,this] using d
  |code p c=>obtain⟨d,j⟩:=uK (f:=f) (k:=k) h;exact⟨d,fun g=>j g.2⟩
  |inLoop p c=>obtain⟨d,j⟩:=uK (f:=f) (k:=k) h;exact⟨d,fun g=>j g.2⟩
  |inScope c=>obtain⟨d,j⟩:=uK (f:=f) (k:=k) h;exact⟨d,fun g=>j g⟩
  |beginRound=>obtain⟨d,j⟩:=uK (f:=f) (k:=k) h;exact⟨d,fun g=>j g⟩
theorem uP {id:Nat}:∀{k:List It},uQ id k=none->exitTo id (Er k)=none
 |[],_=>rfl
 |x::k,h=>by
  cases x with
  |inBlock i=>
   unfold uQ at h;split at h;cases h;rename_i e;have:(i==id)=false:=by simpa using Nat.ne_of_beq_eq_false e
   simpa [Er,It.it,exitTo,this] using uP h
  |code p c=>exact uP (k:=k) h
  |inLoop p c=>exact uP (k:=k) h
  |inScope c=>exact uP (k:=k) h
  |beginRound=>exact uP (k:=k) h
def mV:Nat->List It->List It
 |0,k=>k
 |n+1,k=>match k with
  |.code p c::d=>(match c with
   |.skip=>mV n d
   |.label _=>mV n d
   |.seq a b=>mV n (.code (0::p) a:: .code (1::p) b::d)
   |.block id b=>mV n (.code (0::p) b:: .inBlock id::d)
   |.scope b=>mV n (.code (0::p) b:: .inScope b::d)
   |.loop b=>mV n (.code (0::p) b:: .inLoop (0::p) b::d)
   |.exit id=>(match uQ id d with
    |some e=>mV n e
    |none=>k)
   |_=>k)
  |.inBlock _::d=>mV n d
  |.inScope _::d=>mV n d
  |.inLoop p b::d=>mV n (.code p b:: .inLoop p b::d)
  |_=>k
section
variable {f:FuncId} {p:List Nat} {k:List It} {a b c:Code} {id:Nat}
theorem Good.seq (g:Good P f (.code p (.seq a b)::k)):Good P f (.code (0::p) a:: .code (1::p) b::k):=by
 obtain⟨d,e⟩:=g;exact⟨by simp only[ctx,d,oP],by simp only[ctx,d,oP],e⟩
theorem Good.block (g:Good P f (.code p (.block id b)::k)):Good P f (.code (0::p) b:: .inBlock id::k):=by
 obtain⟨d,e⟩:=g;exact⟨by simp only[ctx,d,oP],e⟩
theorem Good.scope (g:Good P f (.code p (.scope b)::k)):Good P f (.code (0::p) b:: .inScope b::k):=by
 obtain⟨d,e⟩:=g;exact⟨by simp only[ctx,d,oP],e⟩
theorem Good.loop (g:Good P f (.code p (.loop b)::k)):Good P f (.code (0::p) b:: .inLoop (0::p) b::k):=by
 obtain⟨d,e⟩:=g;exact⟨by simp only[ctx,d,oP],by simp only[ctx,d,oP],e⟩
theorem Good.again (g:Good P f (.inLoop p b::k)):Good P f (.code p b:: .inLoop p b::k):=⟨g.1,g⟩
end
theorem oU {f:FuncId}:∀(n:Nat) {k:List It},Good P f k->Er (mV n k)=nP n (Er k)/\Good P f (mV n k)
 |0,_,g=>⟨rfl,g⟩
 |_+1,[],g=>⟨rfl,g⟩
 |n+1,.inBlock _::k,g=>oU n (k:=k) g
 |n+1,.inScope _::k,g=>oU n (k:=k) g
 |n+1,.inLoop _ _::_,g=>oU n g.again
 |_+1,.beginRound::_,g=>⟨rfl,g⟩
 |n+1,.code p c::k,g=>by
  cases c with
  |skip=>exact oU n g.2
  |label _=>exact oU n g.2
  |seq a b=>exact oU n g.seq
  |block id b=>exact oU n g.block
  |scope b=>exact oU n g.scope
  |loop b=>exact oU n g.loop
  |exit id=>
   show Er (match uQ id k with|some d=>mV n d|none=>_)=(match exitTo id (Er k) with|some d=>nP n d|none=>_)/\Good P f (match uQ id k with|some d=>mV n d|none=>_);cases hx:uQ id k with
   |some d=>
    obtain⟨e,j⟩:=uK (P:=P) (f:=f) hx;rw[e];exact oU n (j g.2)
   |none=>rw[uP hx];exact⟨rfl,g⟩
  |_=>exact⟨rfl,g⟩
end
end Go.Ab
end
section
namespace Go.Ab
noncomputable section
variable {P:Program} {K:FuncId->List Value->Option kA}
structure FT where
 L:List (Nat×List Nat)
 R:List (Nat×List Nat)
 hr:Bool
 M:Nat:=0
 F:List (Nat×List (Nat×Nat)):=[]
def aIt (l:List (List FT)) (f:FuncId):FT:=((l[f/16]?).getD [])[f % 16]?.getD ⟨[],[],false,0,[]⟩
def peq:List Nat->List Nat->Bool
 |[],[]=>true
 |a::l,b::m=>(match Nat.beq a b with
  |true=>peq l m
  |false=>false)
 |_,_=>false
theorem aB5:∀{l m:List Nat},peq l m=true->l=m
 |[],[],_=>rfl
 |a::l,b::m,h=>by
  unfold peq at h;split at h;rename_i e;rw[Nat.eq_of_beq_eq_true e,aB5 h];cases h
 |[],_::_,h=>by cases h
 |_::_,[],h=>by cases h
def Ao:List Nat->Nat
 |[]=>1
 |b::p=>2*Ao p+b
def Tl:List (Nat×List Nat)->List Nat->Nat->(Nat->Nat->List Nat->Prop)->Prop
 |[],_,_,_=>hF
 |(n,d)::L,p,i,q=>(match Nat.beq (Ao p) n with
  |true=>(match peq p.reverse (gI n) with
   |true=>q i n d
   |false=>hF)
  |false=>nK (i+1) fun i=>Tl L p i q)
theorem Qt:∀{L:List (Nat×List Nat)} {p:List Nat} {i:Nat} {q:Nat->Nat->List Nat->Prop},Tl L p i q->∃j n d,L[j]?=some (n,d)/\p=(gI n).reverse/\q (i+j) n d
 |[],_,_,_,h=>h.elim
 |(n,d)::L,p,i,q,h=>by
  unfold Tl at h;split at h;split at h;rename_i e;exact⟨0,n,d,rfl,by rw[<-aB5 e,List.reverse_reverse],h⟩;cases h;obtain⟨j,t,g,m,o,r⟩:=Qt (qy h);exact⟨j+1,t,g,m,o,by rw[show i+(j+1)=i+1+j by omega];exact r⟩
def T3 (a:Ek):List Nat->(List Value->Prop)->Prop
 |[],q=>q []
 |t::d,q=>(match a.lk t with
  |some (v,_)=>T3 a d fun e=>q (v::e)
  |none=>hF)
theorem P7 {a:Ek} {env:List Value} (d:fI a env):∀{lv:List Nat} {q:List Value->Prop},T3 a lv q->q (lv.map fun t=>env.getD t undef)
 |[],_,h=>h
 |t::lv,q,h=>by
  unfold T3 at h;split at h;rename_i g;have e:=(d _ _ _ g).1;have:=P7 d (lv:=lv) h;simpa only[List.map_cons,List.getD_eq_getElem?_getD,e,Option.getD_some] using this;cases h
def PtI (P:Program) (K:FuncId->List Value->Option kA) (T:FT) (f:FuncId) (e:Option Nat) (Q:Out->AH->Prop) (i:Nat) (d:List Nat) (vs:List Value) (h:AH):Prop:=
 Pt P K f e Q (ntm P f) ((T.L[i]?).getD (0,[])).2 (.code (ctx P f (gI ((T.L[i]?).getD (0,[])).1).reverse).1::Er (ctx P f (gI ((T.L[i]?).getD (0,[])).1).reverse).2) d vs h
def wE (T:FT) (a:Ek) (k:List It) (q:Nat->List Value->Prop):Prop:=match k with
 |.code p _::_=>Tl T.L p 0 fun i _ d=>T3 a d fun e=>q i e
 |_=>hF
theorem aDp {T:FT} {f:FuncId} {m:Option Nat} {Q:Out->AH->Prop} {g:List Nat} {h:AH} {a:Ek} {env:List Value} {k:List It} (u:fI a env) (y:env.length=ntm P f) (v:Good P f k) (e:wE T a k fun i z=>PtI P K T f m Q i g z h):Ok P K (.todo f m g env (Er k)) h Q:=by
 unfold wE at e;split at e;obtain⟨j,n,A,o,r,d⟩:=Qt e;have d:=P7 u d;simp only[PtI,Nat.zero_add,o,Option.getD_some,<-r,v.1] at d;have:=d (fun t=>env.getD t undef) rfl;rwa [Nu y] at this;cases e
def R0 (P:Program) (a:Ek) (h:AH) (r:ResultVar) (d:(List Value->Prop)->Prop) (p:List Value->Prop):Prop:=match r with
 |.tmp t=>(match a.lk t with
  |some (v,_)=>d fun l=>p (v::l)
  |none=>hF)
 |.cell x t=>(match a.lk x with
  |some (v,_)=>(match jM P t with
   |some true=>Rm P t fun n=>bG (uF h n v) fun v=>d fun l=>p (v::l)
   |some false=>bG (ld1 h v) fun v=>d fun l=>p (v::l)
   |none=>hF)
  |none=>hF)
def eu (P:Program) (a:Ek) (h:AH) (rs:List ResultVar):(List Value->Prop)->Prop:=List.rec (fun p=>p []) (fun r _ d=>R0 P a h r d) rs
theorem Ly {a:Ek} {env:List Value} (e:fI a env) {h:AH}:∀{rs:List ResultVar} {p:List Value->Prop},eu P a h rs p->Qy P h env rs p
 |[],_,d=>d
 |.tmp t::rs,p,d=>by
  have d:R0 P a h (.tmp t) (eu P a h rs) p:=d;unfold R0 at d;simp only at d;split at d;rename_i m;have g:=(e _ _ _ m).1;have:=Ly e (rs:=rs) d;simpa only[Qy,List.getD_eq_getElem?_getD,g,Option.getD_some] using this;cases d
 |.cell x t::rs,p,d=>by
  have d:R0 P a h (.cell x t) (eu P a h rs) p:=d;unfold R0 at d;simp only at d;split at d;rename_i m;have g:=(e _ _ _ m).1;simp only[Qy,List.getD_eq_getElem?_getD,g,Option.getD_some];split at d;rename_i j;simp only[j];exact(sE d).2.mono fun v n=>Ly e n;rename_i j;simp only[j];exact d.mono fun v n=>Ly e n;cases d;cases d
def aA8 (Q:Value->AH->Prop) (l:List Value) (h:AH):Prop:=match l with
 |[v]=>Q v h
 |l=>hP (Q (.tuple ⟨l⟩) h)
theorem aD6 {Q:Value->AH->Prop} {h:AH}:(fun l=>aA8 Q l h)=fun l=>Q (oneOf l) h:=funext fun l=>match l with
 |[]=>rfl
 |[_]=>rfl
 |_::_::_=>rfl
def zn (P:Program) (f:FuncId) (j:Bool) (Q:Value->AH->Prop) (lv:yQ) (e:List Nat) (a:Ek) (h:AH):Prop:=match lv with
 |.exit _=>hF
 |_=>(match j with
  |true=>bG (cH e h) fun g=>eu P a g ((P.funcs[f]?).elim [] fun d=>d.results.toList) fun l=>aA8 Q l g
  |false=>(match e with
   |[]=>eu P a h ((P.funcs[f]?).elim [] fun d=>d.results.toList) fun l=>aA8 Q l h
   |_=>hF))
theorem qk {f:FuncId} {v:Bool} {Q:Value->AH->Prop} {lv:yQ} {n:List Nat} {a:Ek} {env:List Value} {h:AH} (r:fI a env) (g:zn P f v Q lv n a h):Vu P f Q ⟨lv,n,env,undef⟩ h:=by
 have m:(∀id,lv≠.exit id)->(bG (cH n h) fun j=>eu P a j ((P.funcs[f]?).elim [] fun u=>u.results.toList) fun l=>aA8 Q l j)->Vu P f Q ⟨lv,n,env,undef⟩ h:=by
  intro d ⟨j,t,o⟩;simp only[aD6] at o;refine Vy ?_;unfold aDy;cases lv with
  |exit id=>exact absurd rfl (d id)
  |pR=>exact⟨j,t,Ly r o⟩
  |ret=>exact⟨j,t,Ly r o⟩
 unfold zn at g;split at g;cases g;rename_i d;split at g;exact m (fun id e=>d id e) g;split at g;exact m (fun id e=>d id e) ⟨h,rfl,g⟩;cases g
end
end Go.Ab
end
section
namespace Go.Ab
noncomputable section
variable {P:Program} {K:FuncId->List Value->Option kA}
def sy:List It->Bool
 |[]=>true
 |.code _ .ret::_=>true
 |.code _ (.exit _)::_=>true
 |_=>false
def Wp (k:List It):Bool:=match mV 60 k with
 |.code _ (.region _ _ _)::d=>sy (mV 60 d)
 |d=>sy d
def wRg (P:Program) (K:FuncId->List Value->Option kA) (f:FuncId) (m:Nat) (g:Value) (num:Nat) (lv:List Nat) (vs:List Value) (d:Nat) (h:AH) (q:Option Code->AH->Prop):Prop:=
 ∀e:Nat->Value,lv.map e=vs->B4 h (lp P f (gI num) m e d .ready none) fun l j=>Ro P K g l j fun _ n=>bG (sC n l) fun r=>(match r with|(pd,o)=>q pd o)
def wTF (P:Program) (K:FuncId->List Value->Option kA) (E:List Nat->Ek->List It->AH->Prop) (F:yQ->List Nat->Ek->AH->Prop) (T:FT) (f:FuncId) (m:Nat) (C:Option Nat) (n:List Nat->Ek->List It->AH->Prop) (g:List Nat) (a:Ek) (k:List It) (h:AH):Prop:=(match k with
  |[]=>F .pR g a h
  |.code p c::k=>(match c with
   |.skip=>n g a k h
   |.label _=>n g a k h
   |.seq x y=>n g a (.code (0::p) x:: .code (1::p) y::k) h
   |.cond c t e=>(match knW a c with
    |.b true=>n g a (.code (0::p) t::k) h
    |.b false=>n g a (.code (1::p) e::k) h
    |_=>vK P a c fun v=>Br v
     (match Wp (.code (0::p) t::k) with
     |true=>n g a (.code (0::p) t::k) h
     |false=>E g a (mV 60 (.code (0::p) t::k)) h)
     (match Wp (.code (1::p) e::k) with
     |true=>n g a (.code (1::p) e::k) h
     |false=>E g a (mV 60 (.code (1::p) e::k)) h))
   |.block id b=>n g a (.code (0::p) b:: .inBlock id::k) h
   |.loop b=>E g a (mV 60 (.code (0::p) b:: .inLoop (0::p) b::k)) h
   |.scope b=>n g a (.code (0::p) b:: .inScope b::k) h
   |.exit id=>(match uQ id k with
    |some u=>n g a u h
    |none=>(match C with
     |some _=>F (.exit id) g a h
     |none=>hF))
   |.ret=>F .ret g a h
   |.region _ ops false=>yg P K T.M m (fun j=>(ops[j]?).bind (·.dst)) ops.toList a h fun A o=>n g A k o
   |.region id ops true=>aBj P K T.M m T.F id ops a h fun A o=>n g A k o
   |.rangeFunc z _ _ r=>vK P a z fun z=>Tl T.R p 0 fun _ num B=>T3 a B fun D=>(match C with
    |none=>B4 h (.marks true) fun d I=>wRg P K f m z num B D d I fun pd o=>sM pd (n (d::g) a k o) (F .ret (d::g) a o)
      ((jE r).map fun id=>(id,(match uQ id k with
       |some u=>n (d::g) a u o
       |none=>hF)))
    |some l=>bG (fL h l) fun d=>wRg P K f m z num B D d h fun pd o=>sM pd (n g a k o) (F .ret g a o)
      ((jE r).map fun id=>(id,(match uQ id k with
       |some u=>n g a u o
       |none=>F (.exit id) g a o))))
   |_=>hF)
  |.inBlock _::k=>n g a k h
  |.inScope _::k=>n g a k h
  |.inLoop p b::k=>E g a (mV 60 (.code p b:: .inLoop p b::k)) h
  |.beginRound::k=>(match C with
   |some l=>bG (jS h l) fun o=>n g a k o
   |none=>hF))
def wT (P:Program) (K:FuncId->List Value->Option kA) (E:List Nat->Ek->List It->AH->Prop) (F:yQ->List Nat->Ek->AH->Prop) (T:FT) (f:FuncId) (m:Nat) (e:Option Nat) (n:Nat):List Nat->Ek->List It->AH->Prop:=
 Nat.rec (fun _ _ _ _=>hF) (fun _ d=>wTF P K E F T f m e d) n
theorem j6 {b:Nat} {p q:List Nat} {c:Code} {k k':List It}:(oP b p (c,k)).1=(oP b q (c,k')).1:=by
 unfold oP;rcases b with _|_|b<;>cases c<;>rfl
theorem vh {b:Nat} {c:Code} {l:List Nat}:sub c (b::l)=sub (oP b [] (c,[])).1 l:=by
 have d:∀l:List Nat,sub .skip l= .skip:=fun l=>by cases l<;>simp[sub]
 rcases b with _|_|b<;>cases c<;>simp[sub,oP,d]
theorem sub_fold:∀(l:List Nat) (c:Code),sub c l=l.foldl (fun c b=>(oP b [] (c,[])).1) c
 |[],c=>by simp[sub]
 |b::l,c=>by rw[vh,sub_fold l];rfl
theorem Q1 {f:FuncId}:∀p:List Nat,(ctx P f p).1=sub ((Jv P f).getD .skip) p.reverse
 |[]=>by simp[ctx,sub]
 |b::p=>by
  have d:(ctx P f (b::p)).1=(oP b [] ((ctx P f p).1,[])).1:=j6;rw[d,Q1 p,List.reverse_cons,sub_fold,sub_fold,List.foldl_append];rfl
theorem aB4 {f:FuncId} {m:Nat} {A:Operand} {v:Value} {num:Nat} {lv:List Nat} {env:List Value} {ps:Array Tmp} {u r:Code} {d:Nat} {h:AH} {q:Option Code->AH->Prop} (C:env.length=m) (hc:cd P f (gI num)= .rangeFunc A ps u r)
  (D:wRg P K f m v num lv (lv.map fun t=>env.getD t undef) d h q):
  ∃n g first j o y p z,v= .func (.func g) first j/\callable P g=true/\run P K n (.call g (first.toList++[.func (.yield h.next) #[] #[]]++j.toList)) (h.alloc (.loop .ready none f env ps u r d))=some (o,y)/\
   sC y h.next=some (p,z)/\q p z:=by
 subst C
 refine K3 (lv:=lv) ?_
 intro e B
 have:=D e B
 simp only[lp,hc,rgF] at this
 exact this
theorem pM {f:FuncId} {e:Option Nat} {d:List Nat} {env:List Value} {k k':List Item} {h:AH} {Q:Out->AH->Prop} (j:Ok P K (.todo f e d env k') h Q) (g:∀m,run P K (m+1) (.todo f e d env k) h=run P K m (.todo f e d env k') h):Ok P K (.todo f e d env k) h Q:=Dx g j
theorem aAj {E:List Nat->Ek->List It->AH->Prop} {F:yQ->List Nat->Ek->AH->Prop} {T:FT} {f:FuncId} {m:Nat} {W:Option Nat} {Q:Out->AH->Prop}
  (hE:∀A a env k h,fI a env->env.length=m->Good P f k->E A a k h->Ok P K (.todo f W A env (Er k)) h Q) (hF:∀lv A a env h,fI a env->F lv A a h->Q ⟨lv,A,env,undef⟩ h):
  ∀(n:Nat) {A:List Nat} {a:Ek} {env:List Value} {k:List It} {h:AH},fI a env->env.length=m->Good P f k->wT P K E F T f m W n A a k h->Ok P K (.todo f W A env (Er k)) h Q
 |0,_,_,_,_,_,_,_,_,u=>u.elim
 |n+1,A,a,env,k,h,v,D,B,u=>by
  have N:∀{A:List Nat} {a:Ek} {env:List Value} {k:List It} {h:AH},fI a env->env.length=m->Good P f k->wT P K E F T f m W n A a k h->Ok P K (.todo f W A env (Er k)) h Q:=fun x y z w=>aAj hE hF n x y z w;have nm:∀{k:List It},Good P f k->E A a (mV 60 k) h->Ok P K (.todo f W A env (Er k)) h Q:=fun g hk=>by
   obtain⟨Y,h2⟩:=oU (P:=P) (f:=f) 60 g;exact J5 60 (Y▸hE _ _ _ _ _ v D h2 hk)
  have go:∀{Z:List It},Good P f Z->(match Wp Z with
     |true=>wT P K E F T f m W n A a Z h
     |false=>E A a (mV 60 Z) h)->Ok P K (.todo f W A env (Er Z)) h Q:=by
   intro Z g hk
   split at hk
   .exact N v D g hk
   .exact nm g hk
  change wTF P K E F T f m W (wT P K E F T f m W n) A a k h at u;unfold wTF at u;split at u;exact⟨1,_,rfl,hF _ _ _ _ _ v u⟩;rename_i p c k;split at u;exact pM (N v D B.2 u) fun _=>rfl;exact pM (N v D B.2 u) fun _=>rfl;exact pM (N v D B.seq u) fun _=>rfl;rename_i c t e;have g1:Good P f (.code (0::p) t::k):=⟨by simp only[ctx,B.1,oP],B.2⟩;have g2:Good P f (.code (1::p) e::k):=⟨by simp only[ctx,B.1,oP],B.2⟩;obtain⟨k1,k2⟩:=so (P:=P) (x:=c) v;split at u;rename_i hk;exact P5 (Rx (b:=true) (fun _=>N v D g1 u) (by simp)|>fun x=>by rw[k1 _ hk];exact x);rename_i hk;exact P5 (Rx (b:=false) (by simp) (fun _=>N v D g2 u)|>fun x=>by rw[k1 _ hk];exact x);exact P5 (let⟨b,x,y,z⟩:=fD v u;⟨b,x,fun t=>go g1 (y t),fun t=>go g2 (z t)⟩);exact pM (N v D B.block u) fun _=>rfl;exact pM (nm B.loop u) fun _=>rfl;exact pM (N v D B.scope u) fun _=>rfl;rename_i id;split at u;rename_i Z O;obtain⟨Y,h2⟩:=uK (P:=P) (f:=f) O;refine pM (N v D (h2 B.2) u) fun m=>?_;show runTodo P (run P K m) _ _ _ _ (.code (.exit id)::Er k) _=_;simp only[runTodo,Y];rename_i O;split at u;refine⟨1,(⟨.exit id,A,env,undef⟩,h),?_,hF _ _ _ _ _ v u⟩;show runTodo P (run P K 0) _ _ _ _ (.code (.exit id)::Er k) _=_;simp only[runTodo,uP O,Option.isSome_some,if_true];cases u;exact⟨1,_,rfl,hF _ _ _ _ _ v u⟩;rename_i ops;obtain⟨I,o,Y,a',hr,δ,ζ,u⟩:=W8 v D u;obtain⟨J,r,U,hq⟩:=N δ ζ B.2 u;refine⟨max I J+1,r,?_,hq⟩;show runTodo P (run P K (max I J)) _ _ _ _ (.code (.region _ ops false)::Er k) _=_;simp only[runTodo];rw[lD (Nat.le_max_left I J) _ _ _ hr];exact lD (Nat.le_max_right I J) _ _ _ U;rename_i ops;obtain⟨I,e,Y,a',hr,δ,ζ,u⟩:=aAl v D u;obtain⟨J,r,U,hq⟩:=N δ ζ B.2 u;refine⟨max I J+1,r,?_,hq⟩;show runTodo P (run P K (max I J)) _ _ _ _ (.code (.region _ ops true)::Er k) _=_;simp only[runTodo];rw[J6 (lD (Nat.le_max_left I J)) hr];exact lD (Nat.le_max_right I J) _ _ _ U;rename_i fv ps γ V;have u:=fD v u;obtain⟨j,num,lv,_,hp,u⟩:=Qt u;have u:=P7 v u;have hc:cd P f (gI num)= .rangeFunc fv ps γ V:=by
   have:=Q1 (P:=P) (f:=f) p;rw[B.1,hp,List.reverse_reverse] at this;exact this.symm
  have ex:∀{S:List Nat} {h4:AH} {pd:Option Code},sM pd (wT P K E F T f m W n S a k h4) (F .ret S a h4)
    ((jE V).map fun id=>(id,(match uQ id k with
     |some Z=>wT P K E F T f m W n S a Z h4
     |none=>(match W with
      |none=>False
      |some _=>F (.exit id) S a h4))))->Ok P K (.todo f W S env ((pd.map Item.code).toList++Er k)) h4 Q:=by
   intro S h4 pd O
   unfold sM at O
   split at O
   .exact N v D B.2 O
   .exact⟨1,_,rfl,hF _ _ _ _ _ v O⟩
   .rename_i id;split at O
    .rename_i hl;have:=Xo hl;subst this;split at O
     .rename_i Z hy;obtain⟨Y,h2⟩:=uK (P:=P) (f:=f) hy;refine pM (N v D (h2 B.2) O) fun m=>?_;show runTodo P (run P K m) _ _ _ _ (.code (.exit id)::Er k) _=_;simp only[runTodo,Y]
     .rename_i hy;split at O
      .cases O
      .refine⟨1,(⟨.exit id,S,env,undef⟩,h4),?_,hF _ _ _ _ _ v O⟩;show runTodo P (run P K 0) _ _ _ _ (.code (.exit id)::Er k) _=_;simp only[runTodo,uP hy,Option.isSome_some,if_true]
    .cases O
   .cases O
  split at u;unfold B4 at u;obtain⟨I,g,first,X,o,h3,p,h4,hf,ε,hr,C,u⟩:=aB4 D hc u;obtain⟨J,r,U,hq⟩:=ex u;refine⟨max I J+1,r,?_,hq⟩;show runTodo P (run P K (max I J)) _ _ _ _ (.code (.rangeFunc fv ps γ V)::Er k) _=_;unfold sC at C;split at C;rename_i hl;split at C;cases C;rename_i hb;simp only[Option.map_eq_some_iff] at C;obtain⟨h5,C,h6⟩:=C;cases h6;simp only[runTodo,hf,ε,if_true];rw[lD (Nat.le_max_left I J) _ _ _ hr];simp only[hl,hb,if_false,C];exact lD (Nat.le_max_right I J) _ _ _ U;cases C;rename_i l;obtain⟨d,β,u⟩:=u;obtain⟨I,g,first,X,o,h3,p,h4,hf,ε,hr,C,u⟩:=aB4 D hc u;obtain⟨J,r,U,hq⟩:=ex u;refine⟨max I J+1,r,?_,hq⟩;show runTodo P (run P K (max I J)) _ _ _ _ (.code (.rangeFunc fv ps γ V)::Er k) _=_;unfold sC at C;unfold fL at β;split at β;rename_i η;cases β;split at C;rename_i hl;split at C;cases C;rename_i hb;simp only[Option.map_eq_some_iff] at C;obtain⟨h5,C,h6⟩:=C;cases h6;simp only[runTodo,η,hf,ε,if_true];rw[lD (Nat.le_max_left I J) _ _ _ hr];simp only[hl,hb,if_false,C];exact lD (Nat.le_max_right I J) _ _ _ U;cases C;cases β;cases u;rename_i k;exact pM (N (k:=k) v D B u) fun _=>rfl;rename_i k;exact pM (N (k:=k) v D B u) fun _=>rfl;exact pM (nm B.again u) fun _=>rfl;rename_i k;split at u;rename_i l;obtain⟨h',Y,h2⟩:=u;unfold jS at Y;split at Y;rename_i θ;refine Dx (t':= .todo f (some l) A env (Er k)) (h':=h') (fun m=>?_) (N v D B h2);show runTodo P (run P K m) _ _ _ _ (.beginRound::Er k) _=_;simp only[runTodo,θ,Y];cases Y;cases u
end
end Go.Ab
end
section
namespace Go.Ab
noncomputable section
variable {P:Program} {K:FuncId->List Value->Option kA}
theorem Uu {f:FuncId}:∀p:List Nat,Good P f (ctx P f p).2
 |[]=>trivial
 |b::p=>by
  have e:=Uu (f:=f) p;have d:∀c,ctx P f (c::p)=oP c p (ctx P f p):=fun _=>rfl;rw[d];generalize g:ctx P f p=x at e d;obtain⟨c,k⟩:=x;rcases b with _|_|b<;>cases c<;>simp_all [oP,Good]
def D (P:Program) (K:FuncId->List Value->Option kA) (T:FuncId->FT) (f:FuncId) (i:Nat) (d:List Nat) (Q:Value->AH->Prop) (vs:List Value) (h:AH):Prop:=PtI P K (T f) f none (Vu P f Q) i d vs h
def R (P:Program) (K:FuncId->List Value->Option kA) (T:FuncId->FT) (f:FuncId) (i:Nat) (l:Nat) (Q:Value->AH->Prop) (vs:List Value) (h:AH):Prop:=PtI P K (T f) f (some l) (Ej l Q) i [] vs h
def fW (P:Program) (f:FuncId) (q:Nat->Code->Prop):Prop:=match P.funcs[f]? with
 |some ⟨_,_,_,_,_,_,n,_,some c,_,_,_,_,_,_,_⟩=>q n c
 |_=>hF
theorem aC4 {f:FuncId} {q:Nat->Code->Prop} (h:fW P f q):∃d c,P.funcs[f]?=some d/\d.body=some c/\ntm P f=d.ntmps/\Jv P f=some c/\q d.ntmps c:=by
 unfold fW at h;split at h;rename_i e;exact⟨_,_,e,rfl,by simp only[ntm,e,Option.elim_some],by simp only[Jv,e,Option.bind_some],h⟩;cases h
def Vv (m:Nat):List Nat->List Value->Ek->(Ek->Prop)->Prop
 |[],[],a,q=>q a
 |t::d,v::e,a,q=>(match Nat.blt t m with
  |true=>Vv m d e ((t,v,.un)::a) q
  |false=>hF)
 |_,_,_,_=>hF
theorem Pu {m:Nat}:∀{lv:List Nat} {vs:List Value} {a:Ek} {env:List Value} {q:Ek->Prop},fI a env->env.length=m->Vv m lv vs a q->∃g,fI g ((lv.zip vs).foldl (fun t (p,v)=>t.set p v) env)/\((lv.zip vs).foldl (fun t (p,v)=>t.set p v) env).length=m/\lv.length=vs.length/\q g
 |[],[],a,env,q,n,j,d=>⟨a,n,j,rfl,d⟩
 |t::lv,v::vs,a,env,q,n,j,d=>by
  unfold Vv at d;split at d;rename_i e;have z:t<m:=Nat.le_of_ble_eq_true e;obtain⟨g,o,r,u,y⟩:=Pu (n.cons (k:= .un) (v:=v) (j.symm▸z) (fun _ e=>by cases e) (fun e=>by cases e)) (by simpa using j) d;exact⟨g,o,r,by simp[u],y⟩;cases d
 |[],_::_,_,_,_,_,_,d=>d.elim
 |_::_,[],_,_,_,_,_,d=>d.elim
theorem ni {env:List Value} {t:Nat} {v:Value} (h:∀u,env[t]?=some u->u=v):env.set t v=env:=by
 refine List.ext_getElem? fun i=>?_;rw[List.getElem?_set];by_cases e:t=i;subst e;rw[aKj rfl];cases he:env[t]? with
 |none=>rw[aKi (by simpa using he)]
 |some u=>rw[aKj (List.getElem?_eq_some_iff.1 he).1,h u he]
 rw[aKi e]
theorem Ld {e:Nat->Value} {m:Nat}:∀{lv:List Nat} {vs:List Value},lv.map e=vs->(lv.zip vs).foldl (fun t (p,v)=>t.set p v) ((List.range m).map e)=(List.range m).map e
 |[],_,_=>rfl
 |t::lv,vs,h=>by
  subst h;rw[List.map_cons,List.zip_cons_cons,List.foldl_cons];show List.foldl _ (((List.range m).map e).set t (e t)) _=_;rw[ni,Ld rfl];intro u d;simp only[List.getElem?_map] at d;rcases Nat.lt_or_ge t m with g|g;rw[List.getElem?_range g] at d;cases d;rfl;rw[List.getElem?_eq_none (by simpa using g)] at d;cases d
theorem fI.nil {env:List Value}:fI [] env:=fun _ _ _ h=>by cases h
def wD (P:Program) (K:FuncId->List Value->Option kA) (T:FuncId->FT) (f:FuncId) (i:Nat) (d:List Nat) (Q:Value->AH->Prop) (vs:List Value) (h:AH):Prop:=match(T f).L[i]? with
 |some (num,e)=>fcL (gI num).reverse fun p=>(match ctx P f p with
  |(c,k)=>fW P f fun m _=>Vv m e vs [] fun a=>wT P K (fun d a k h=>wE (T f) a k fun i vs=>D P K T f i d Q vs h) (zn P f (T f).hr Q) (T f) f m none 200 d a (.code p c::k) h)
 |none=>hF
theorem bW {f:FuncId} {T:FuncId->FT} {i:Nat} {j:List Nat} {Q:Value->AH->Prop} {vs:List Value} {h:AH} (d:wD P K T f i j Q vs h):D P K T f i j Q vs h:=by
 unfold wD at d;split at d;rename_i num B z;have d:=Ir d;generalize o:ctx P f (gI num).reverse=x at d;obtain⟨c,k⟩:=x;obtain⟨v,_,_,_,u,_,d⟩:=aC4 d;unfold D PtI;simp only[z,Option.getD_some,o];intro e y;rw[u];obtain⟨a,r,t,_,d⟩:=Pu (env:=(List.range v.ntmps).map e) fI.nil (by simp) d;rw[Ld y] at r t;have m:=Uu (P:=P) (f:=f) (gI num).reverse;rw[o] at m;exact aAj (fun j a g k h n A m hE=>aDp n (A.trans u.symm) m hE) (fun B j a g h n hF=>qk n hF) 200 (k:= .code (gI num).reverse c::k) r t ⟨o,m⟩ d;cases d
def wRd (P:Program) (K:FuncId->List Value->Option kA) (T:FuncId->FT) (f:FuncId) (i:Nat) (l:Nat) (Q:Value->AH->Prop) (vs:List Value) (h:AH):Prop:=match(T f).L[i]? with
 |some (num,e)=>fcL (gI num).reverse fun p=>(match ctx P f p with
  |(c,k)=>fW P f fun m _=>Vv m e vs [] fun a=>wT P K (fun d a k h=>(match d with
   |[]=>wE (T f) a k fun i vs=>R P K T f i l Q vs h
   |_=>hF)) (fun e d _ h=>Pz l Q e d [] h) (T f) f m (some l) 200 [] a (.code p c::k) h)
 |none=>hF
theorem ln {f:FuncId} {T:FuncId->FT} {l:Nat} {Q:Value->AH->Prop} {m:Nat} (n:ntm P f=m):∀e a d k h,fI a d->d.length=m->Good P f k->(match e with
   |[]=>wE (T f) a k fun i r=>R P K T f i l Q r h
   |_=>False)->Ok P K (.todo f (some l) e d (Er k)) h (Ej l Q):=by
 intro e a d k h g o j hE
 split at hE
 .exact aDp g (o.trans n.symm) j hE
 .cases hE
def aC5:Nat->List Value->Ek->(Ek->Prop)->Prop
 |_,[],a,q=>q a
 |i,v::l,a,q=>nK (i+1) fun j=>aC5 j l ((i,v,.un)::a) q
theorem fI.add {a:Ek} {env:List Value} (m:fI a env) {d:Nat} {v:Value} (n:env[d]?=some v):fI ((d,v,.un)::a) env:=by
 intro t u j g;unfold Ek.lk at g;split at g;rename_i e;have:=Nat.eq_of_beq_eq_true e;subst this;cases g;exact⟨n,fun x e=>(by cases e),fun e=>(by cases e)⟩;exact m t u j g
theorem lz {env:List Value}:∀{l:List Value} {i:Nat} {a:Ek} {q:Ek->Prop},fI a env->(∀j v,l[j]?=some v->env[i+j]?=some v)->aC5 i l a q->∃g,fI g env/\q g
 |[],_,a,_,d,_,e=>⟨a,d,e⟩
 |v::l,i,a,q,d,m,e=>lz (l:=l) (d.add (m 0 v rfl)) (fun j u n=>by have:=m (j+1) u (by simpa using n);rwa [show i+1+j=i+(j+1) by omega]) (qy e)
def qq (n m:Nat):List Nat->Ek->(Ek->Prop)->Prop
 |[],a,q=>hP (q a)
 |t::d,a,q=>(match Nat.ble n t with
  |true=>(match Nat.blt t m with
   |true=>qq n m d ((t,undef,.un)::a) q
   |false=>hF)
  |false=>qq n m d a q)
theorem Xx {args:List Value} {m:Nat}:∀{lv:List Nat} {a:Ek} {q:Ek->Prop},fI a (args++List.replicate (m - args.length) undef)->qq args.length m lv a q->∃j,fI j (args++List.replicate (m - args.length) undef)/\q j
 |[],a,_,e,d=>⟨a,e,d⟩
 |t::lv,a,q,e,d=>by
  unfold qq at d;split at d;rename_i g;have g:=Nat.le_of_ble_eq_true g;split at d;rename_i n;have n:t<m:=Nat.le_of_ble_eq_true n;refine Xx (e.add ?_) d;rw[List.getElem?_append_right g,List.getElem?_replicate,aac];cases d;exact Xx e d
def wC (P:Program) (K:FuncId->List Value->Option kA) (T:FuncId->FT) (f:FuncId) (args:List Value) (Q:Value->AH->Prop) (h:AH):Prop:=match K f args with
 |none=>fW P f fun m c=>(match Nat.ble args.length m with
  |true=>aC5 0 args [] fun a=>nK args.length fun n=>qq n m (((T f).L[0]?).getD (0,[])).2 a fun a=>wT P K (fun d a k h=>wE (T f) a k fun i e=>D P K T f i d Q e h) (zn P f (T f).hr Q) (T f) f m none 200 [] a [.code [] c] h
  |false=>hF)
 |some _=>hF
theorem cW {f:FuncId} {T:FuncId->FT} {args:List Value} {Q:Value->AH->Prop} {h:AH} (d:wC P K T f args Q h):Cl P K f args h Q:=by
 unfold wC at d;split at d;rename_i u;obtain⟨o,c,z,y,B,n,d⟩:=aC4 d;refine x6 z y u ?_;split at d;rename_i hle;have hle:args.length<=o.ntmps:=Nat.le_of_ble_eq_true hle;obtain⟨a,g,d⟩:=lz (env:=args++List.replicate (o.ntmps - args.length) undef) fI.nil (fun j v r=>by
  rw[Nat.zero_add,List.getElem?_append_left (List.getElem?_eq_some_iff.1 r).1];exact r) d
 obtain⟨a,g,d⟩:=Xx g (qy d);exact aAj (fun t a e k h m C A hE=>aDp m (C.trans B.symm) A hE) (fun D t a e h m hF=>qk m hF) 200 (k:=[.code [] c]) g (by simp;omega) ⟨by simp only[ctx,n,Option.getD_some],trivial⟩ d;cases d;cases d
def wR0 (P:Program) (K:FuncId->List Value->Option kA) (T:FuncId->FT) (f:FuncId) (num m:Nat) (lv:List Nat) (vs:List Value) (l:Nat) (args:List Value) (Q:Value->AH->Prop) (h:AH):Prop:=fcL (gI num).reverse fun p=>(match ctx P f p with
 |(.rangeFunc _ n e d,_)=>fW P f fun j _=>(match Nat.beq j m with
  |true=>Vv m lv vs [] fun a=>Vv m n.toList args a fun a=>wT P K (fun g a k h=>(match g with
   |[]=>wE (T f) a k fun i vs=>R P K T f i l Q vs h
   |_=>hF)) (fun lv g _ h=>Pz l Q lv g [] h) (T f) f m (some l) 200 [] a [.code (0::p) e,.beginRound,.code (1::p) d] h
  |false=>hF)
 |_=>hF)
theorem rW {f:FuncId} {T:FuncId->FT} {num m l d:Nat} {lv:List Nat} {vs args:List Value} {e:Nat->Value} {st:LoopState} {pd:Option Code} {Q:Value->AH->Prop} {h:AH} (y:h.get l=some (lp P f (gI num) m e d st pd)) (B:List.map e lv=vs)
  (g:wR0 P K T f num m lv vs l args Q h):zB P K (.func (.yield l) #[] #[]) args h Q:=by
 unfold wR0 at g
 have g:=Ir g
 split at g
 .rename_i z E o j k v;obtain⟨I,_,_,_,D,_,g⟩:=aC4 g;split at g
  .rename_i u;have u:=Nat.eq_of_beq_eq_true u;obtain⟨a,r,t,_,g⟩:=Pu (env:=(List.range m).map e) fI.nil (by simp) g;rw[Ld B] at r t;obtain⟨a,r,t,C,g⟩:=Pu r t g;have A:cd P f (gI num)= .rangeFunc z E o j:=by
    have:=Q1 (P:=P) (f:=f) (gI num).reverse;rw[v,List.reverse_reverse] at this;exact this.symm
   simp only[lp,A,rgF] at y
   refine im (qu y (by simpa using C.symm) ?_)
   exact aAj (ln (D.trans u)) (fun lv F a n h J hF=>by have:=Qd (env:=n) hF;exact this) 200 (k:=[.code (0::(gI num).reverse) o,.beginRound,.code (1::(gI num).reverse) j]) r t
    ⟨by simp only[ctx,v,oP],by simp only[ctx,v,oP],trivial⟩ g
  .cases g
 .cases g
end
end Go.Ab
end
section
namespace Go.Ab
variable {P:Program} {K:FuncId->List Value->Option kA} {G:Bg} {h:AH} {L L' M:List HP}
theorem aFq {W n i c:Nat} {e:TypeId} {a:Option Addr} {cs z:List Value} {k:Value->AH->Prop} (hW:0<W) (g:∀m,(dY z m).length=m*W/\(dY z m).all eJ=true) (hi:i<n) (u:Hs G h L) [m:Has (dH W e a c) L (n,cs) L']
  (hk:∀O,Hs G O (dH W e a c (i,cs.take (i*W))::L')->k (.slice a i c) O):
  bG (wV W h (.slice a n c) (some (I i)) none none) fun v0=>bG (iJ z h v0) fun V=>(fun _ Q=>bG (wV W Q (.slice a n c) none (some (I i)) none) fun v4=>k v4 Q) V.1 V.2:=by
 have u:=m.of u
 have hl:=u.Cj
 have S:=u.Es
 simp only at hl S
 have d:n<=c:=by
  obtain⟨r,r2,⟨_,_,hr⟩,_⟩:=u.fst;rcases hr with⟨g,_⟩|⟨g,_⟩|⟨d,_⟩;simp only at g;omega;simp only at g;omega;exact d
 obtain⟨b,o,rfl,H,E,close⟩:=u.oZ (by omega)
 have T:0<n*W:=Nat.mul_pos (by omega) hW
 have D:0<cs.length:=by omega
 have N:lS none c c=some c:=rfl
 have X:lS (some (I i)) n c=some i:=by simp only[lS];rw[aac];simp
 have Y:lS none 0 i=some 0:=rfl
 have Z:lS none n c=some n:=rfl
 have b5:lS (some (I i)) 0 n=some i:=by simp only[lS];rw[aac];simp
 have C:¬c=i:=by omega
 have B:¬c=0:=by omega
 have β:i*W<=n*W:=Nat.mul_le_mul_right W (by omega)
 have U:(n - i)*W=n*W - i*W:=Nat.sub_mul _ _ _
 refine⟨.slice (some ⟨b,o+i*W,none⟩) (n - i) (c - i),?_,?_⟩
 .simp only[wV,N,Z,b5,Option.isNone_none,Option.isSome_none,Bool.and_false,Bool.false_eq_true,if_false,dA,C];rw[aKj d]
 obtain⟨A,J,y⟩:=E.write (j:=i*W) (vs:=dY z (n - i)) (by rw[(g _).1];omega) (g _).2 D
 refine⟨(.tuple #[],A),?_,?_⟩
 .simp only[iJ,aKi (show ¬n - i=0 by omega),J,Option.map_some]
 refine⟨.slice (some ⟨b,o,none⟩) i c,?_,hk A ?_⟩
 .simp only[wV,N,X,Y,Option.isNone_some,Bool.false_and,Option.isSome_none,Bool.false_eq_true,if_false,B,dA];rw[aac];simp
 have F:cF cs (i*W) (dY z (n - i))=cs.take (i*W)++dY z (n - i):=by
  unfold cF;rw[List.drop_eq_nil_of_le (by rw[(g _).1];omega),List.append_nil]
 rw[F] at y
 have t:(cs.take (i*W)).length=i*W:=by rw[List.length_take];omega
 refine Iq (n:=n) (zs:=dY z (n - i)) (by omega) (by omega) t (close A _ _ ?_ ?_ y)
 .rw[List.length_append,t,(g _).1];omega
 .rw[List.all_append,(g _).2,Bool.and_true];exact List.all_eq_true.2 fun v hv=>List.all_eq_true.1 S v (List.mem_of_mem_take hv)
instance {p:Nat}:Cv (gA p) [gA p]:=⟨rfl⟩
theorem aFm {cs:List Value} {e:TypeId} {v:Value} {k:Nat->AH->Prop} (j:Hs G h L) [m:Cv v cs] (g:∀p d,Hs G d (aE p 0 cs::mt p (e,true,cs.length)::L)->k p d):bG (kX e v) fun b=>B4 h b k:=
 ⟨.cells cs e (0,0) true,by simp[kX,m.eq],g _ _ j.new⟩
end Go.Ab
end
section
namespace Go.Ab
variable {P:Program} {K:FuncId->List Value->Option kA} {G:Bg} {h:AH} {L L' M:List HP}
theorem Hs.aC3 {r n i:Nat} {D:List Nat} {o:oS} (Z:K2 o=true) (A:Hs G h (frs r n D::L)) (Y:i<n) (hD:i∉D):
  Hs G (h.set (r+i) (some o)) (ot (r+i) o::frs r n (i::D)::L):=by
 obtain⟨q,⟨r1,N,T,U,B,V⟩,W⟩:=A.res
 cases T
 subst V
 obtain⟨i1,i2⟩:=(cN.fP B).1 W
 obtain⟨q1,q2,E,⟨q3,q4,F,I,β,z⟩,X,J⟩:=Ub (r:=r) Y hD
 cases E;cases I
 rw[cN.add_comm (s:=cN.emp) cN.dP.symm,cN.gD] at z
 subst z
 cases F
 rw[J] at i1 B
 obtain⟨i3,i4⟩:=(cN.fP X).1 i1
 obtain⟨fb,fn,S⟩:=i3.free (r+i) (by simp)
 obtain⟨d1,d2⟩:=cN.iI.1 B.symm
 have e:∀j,(h.set (r+i) (some o)).get j=if j=r+i then some o else h.get j:=fun j=>AH.jR fb
 have m:=(cN.fP d2.symm).2 ⟨i4,i2⟩
 have u:((⟨fun _ _=>none,fun b=>if r<=b/\b<r+n/\(b - r)∉(i::D) then some .free else none⟩:cN).add N).tok (r+i)=none:=by
  simp only[cN.add];rw[aKi (by rw[Nat.add_sub_cancel_left];simp)];rcases d1.tok (r+i) with h|h;simpa using h;simp at h
 have y:(⟨fun _ _=>none,fun Q=>if Q=r+i then some (.Me o) else none⟩:cN).vI ((⟨fun _ _=>none,fun b=>if r<=b/\b<r+n/\(b - r)∉(i::D) then some .free else none⟩:cN).add N):=by
  refine⟨fun _ _=> .inl rfl,fun b=>?_⟩;by_cases t:b=r+i;right;rw[t];exact u;left;simp only;rw[aKi t]
 refine⟨by simp;exact A.base,by rw[AH.Bs];exact A.old,by simp;exact A.wf,fun j O=>by simp at O;rw[e,aab];exact A.fr j O,
    _,⟨_,_,rfl,⟨_,N,rfl,U,d2.symm,rfl⟩,y,rfl⟩,(cN.fP y).2 ⟨?_,?_⟩⟩
 .refine⟨fun _ _ _ d=>(by cases d),fun b d=>?_,fun b e' x' n d=>?_,fun b o' d=>?_⟩
  .simp only at d;split at d<;>cases d
  .simp only at d;split at d<;>cases d
  .simp only at d;split at d
   .rename_i t;subst t;cases d;exact⟨by simp;exact fb,by rw[e,aKj rfl],Z⟩
   .cases d
 .refine m.of (by simp) (by simp) fun b t=>?_;rw[e,aKi];intro C;subst C;rcases t with t|⟨o,t⟩
  .exact t u
  .apply t;cases hc:cN.cell _ (r+i) o with
   |none=>rfl
   |some v=>obtain⟨_,_,_,_,g,_⟩:=m.cell _ o v hc;rw[S] at g;cases g
theorem Ye {r i n:Nat} {D:List Nat} {k:Nat->AH->Prop} (j:Hs G h L) [m:Has (Z6 r) L (n,D) L'] (e:Nat.blt i n=true) (hD:D.contains i=false)
  (g:∀p d,Hs G d (iG p (fun _=>none)::Z6 r (n,i::D)::L')->k p d):mA h (r+i) (.map [] 0) k:=
 g _ _ (sX (es:=[]) (cl:=0) ⟨by simp,by simp,by simp,by simp⟩ (fun _=>rfl) (Hs.aC3 (o:= .map [] 0) rfl (show Hs G h (frs r n D::L') from m.of j) (by have:=Nat.le_of_ble_eq_true e;omega) (by simpa using hD)))
end Go.Ab
end
section
namespace Go.Ab
variable {P:Program} {K:FuncId->List Value->Option kA} {G:Bg} {h:AH} {L L' M:List HP}
def pE (p:Nat):List Value:=[pt p 0 0]
instance:Fx pE 1 where
 len _:=rfl
 cel _:=rfl
theorem sc {e:TypeId} {a:Option Addr} {c i:Nat} {l:List Nat} {k:Value->Prop} (d:Hs G h L) [m:Has (ls pE 1 e a c) L l L'] (n:i<l.length) (t:k (pt (l.getD i 0) 0 0)):bG (lN 1 (.slice a l.length c) (I i)) fun p=>bG (ld1 h p) k:=by
 have u:l[i]?=some (l.getD i 0):=by rw[List.getD_eq_getElem?_getD,List.getElem?_eq_getElem n];rfl
 have d:Hs G h (dH 1 e a c (l.length,eL pE l)::L'):=m.of d;obtain⟨b,o,rfl,g⟩:=d.fV (by omega);refine dN n ?_;rw[show pt b (o+i*1) 0=pt b o (i*1) by simp[pt]];have r:(eL pE l)[i*1]?=some (pt (l.getD i 0) 0 0):=Hw (enc:=pE) (W:=1) (j:=0) u rfl;exact aC (b:=b) (o:=o) (j:=i*1) g r t
theorem mv {e:TypeId} {a:Option Addr} {c i q:Nat} {l:List Nat} {k:AH->Prop} (j:Hs G h L) [m:Has (ls pE 1 e a c) L l L'] (r:i<l.length) (v:∀g,Hs G g (ls pE 1 e a c (l.set i q)::L')->k g):bG (lN 1 (.slice a l.length c) (I i)) fun p=>bG (uG h 1 p (pt q 0 0)) k:=by
 have j:Hs G h (dH 1 e a c (l.length,eL pE l)::L'):=m.of j;obtain⟨b,o,rfl,n⟩:=j.fV (by omega);refine dN r ?_;rw[show pt b (o+i*1) 0=pt b o (i*1) by simp[pt]];have t:(eL pE l).length=l.length*1:=Ac;refine bL n (vs:=[pt q 0 0]) rfl (Nat.ble_eq_true_of_le (by omega)) rfl (Nat.ble_eq_true_of_le (by omega)) fun g d=>v g ?_;have u:dS (eL pE l) (i*1) [pt q 0 0]=eL pE (l.set i q):=s5 (y:=q) r;rw[u] at d;unfold ls;rw[List.length_set];exact Hs.mQ d (by rw[Ac,List.length_set]) Fy
def mX {α:Type} (R:Nat->Nat->α->HP) (l:List Nat) (s:Nat->α):HP:=dE l.length fun k=>R k (l.getD k 0) (s k)
def Fq {α:Type} (R:Nat->Nat->α->HP) (l:List Nat) (s:Nat->α) (i:Nat):HP:=sp (((List.range l.length).erase i).map fun k=>R k (l.getD k 0) (s k))
variable {α:Type} {R:Nat->Nat->α->HP} {l:List Nat} {s:Nat->α} {i q:Nat} {x:α}
theorem gV (d:i<l.length) (e:Hs G h L) [m:Has (mX R l) L s L']:Hs G h (R i (l.getD i 0) (s i)::Fq R l s i::L'):=(show Hs G h (dE l.length (fun k=>R k (l.getD k 0) (s k))::L') from m.of e).kO i d
theorem nh (d:i<l.length) (m:Hs G h (R i q x::Fq R l s i::L)):Hs G h (mX R (l.set i q) (fun j=>if j=i then x else s j)::L):=by
 unfold mX;rw[List.length_set];refine Hs.aAz (i:=i) (f:=fun k=>R k (l.getD k 0) (s k)) d (fun j g=>?_) ?_;simp only[aKi g,List.getD_eq_getElem?_getD,List.getElem?_set];rw[aKi (fun e=>g e.symm)];simp only[if_true,List.getD_eq_getElem?_getD,List.getElem?_set,d,Option.getD_some];exact m
theorem D3 (d:i<l.length) (g:Hs G h (R i (l.getD i 0) x::Fq R l s i::L)):Hs G h (mX R l (fun j=>if j=i then x else s j)::L):=by
 have:=nh d g;rwa [show l.set i (l.getD i 0)=l by
  refine List.ext_getElem? fun j=>?_;rw[List.getElem?_set];split;rename_i e;subst e;rw[List.getD_eq_getElem?_getD,List.getElem?_eq_getElem d];rfl;rfl] at this
theorem Hv (d:Hs G h L):Hs G h (mX R [] s::L):=Hs.U1 d
theorem Ig (m:Hs G h (R l.length q (s l.length)::mX R l s::L)):Hs G h (mX R (l++[q]) s::L):=by
 unfold mX;rw[List.length_append,List.length_singleton];refine Hs.T1 ?_;have e:(l++[q]).getD l.length 0=q:=by simp[List.getD_eq_getElem?_getD]
 rw[e];have d:=m.perm (List.Perm.swap _ _ _);refine(sV (f:=fun k=>R k (l.getD k 0) (s k)) (fun j g=>?_) d).perm (List.Perm.swap _ _ _);simp only[List.getD_eq_getElem?_getD,List.getElem?_append_left g]
end Go.Ab
end
namespace Go.Ab
open Go Go.RowKit Go.ChangeShapes Go.WideShapes Go.ChangeAt
section
variable {H:Type} {enc:TypeId×Value->H}
theorem oe {P:Program} {W:World} {base:Nat} {t:TypeId} {fs:Array Field} {v:Value} (e:P.underlying t=some (.struct fs)) (d:Value.okWide P W .any base t v):∃l,v= .agg ⟨l⟩/\l.length=P.cellsOf t:=by
 simp only[Value.okWide,e] at d;obtain⟨⟨l⟩,rfl,h,_⟩:=d;exact⟨l,rfl,h⟩
theorem vB {P:Program} {W:World} {t e:TypeId} {fs:Array Field} {i:Nat} {f:Field} {l:List Value} {d:DataW H} {p:List MemPlace} {n:Nat} {r:List (Option IntKind)} (F:P.underlying t=some (.struct fs)) (y:fs[i]?=some f)
  (I:P.underlying f.type=some (.slice e)) (C:P.cellsOf f.type=1) (D:sG P n e=some r) (hc:P.cellsOf e=r.length) (B:0<r.length)
  (h:DataW.Trod enc P W 0 (fun _=>true) true t (.agg ⟨l⟩) d p):∃a len g,l[f.offset]?=some (.slice a len g)/\jQ r W a len g:=by
 obtain⟨fuel,u⟩:=h
 obtain⟨N,m,_,_,Q,J,j⟩:=DataW.trod_struct F u
 have A:=j i f y
 have v:i<N.length:=by rw[J];exact(Array.getElem?_eq_some_iff.1 y).1
 rw[List.getElem?_eq_getElem v] at A
 obtain⟨a,len,g,o,E⟩:=F1 I D hc B A
 refine⟨a,len,g,?_,E⟩
 rw[C] at o
 have O:(Value.cells (.agg ⟨l⟩)).toList=l:=by simp[Value.cells]
 have:=congrArg (fun z=>z[0]?) o
 simpa [Value.cells] using this
end
section
theorem Di {α:Type} {f:α->List Value} {R:α->Prop} {W n:Nat} {at':Nat->List Value} (hex:∀i,i<n->∃x,at' i=f x/\R x):
  ∃l:List α,l.length=n/\(∀x∈l,R x)/\∀(G:Bg) (v:Value),uA G W v n at'->uA G W v (l.map f).length (fun i=>(l.map f).getD i []):=by
 let l:List α:=(List.finRange n).map fun i=>(hex i.1 i.2).choose
 have g:l.length=n:=by simp[l]
 have u:∀i,(d:i<n)->l[i]?=some (hex i d).choose:=fun i d=>by
  simp[l,List.getElem?_map,List.getElem?_eq_getElem (show i<(List.finRange n).length by simp;exact d)]
 refine⟨l,g,fun x z=>?_,fun G v y=>?_⟩
 .obtain⟨i,_,rfl⟩:=List.mem_map.1 z;exact(hex i.1 i.2).choose_spec.2
 .obtain⟨a,c,rfl,e⟩:=y;rw[List.length_map,g];refine⟨a,c,rfl,fun i d=>?_⟩;obtain⟨b,o,cells,j,m,r,t⟩:=e i d;refine⟨b,o,cells,j,m,?_,t⟩;rw[r,(hex i d).choose_spec.1];show f _=(l.map f).getD i [];rw[List.getD_eq_getElem?_getD,List.getElem?_map,u i d];rfl
def qb (G:Bg) (v:Value) (n:Nat):Prop:=(v= .slice none 0 0/\n=0)\/(v= .slice (some ⟨0,0,some 0⟩) 0 0/\n=0)\/
 ∃k o c cells e d,v= .slice (some ⟨k,o,none⟩) n c/\0<n/\n<=c/\k<G.base/\G.old k=some (.cells cells e d false)
theorem wK {w:World} (P:Program) {d:List (Option IntKind)} {a:Option Addr} {len cap:Nat} (h:jQ d w a len cap):∃(r:OB) (t:Nat->Value),W3 P w r/\
  (∀ρ k,ρ k=r.2->aF ρ (t k) (.slice a len cap))/\∃at':Nat->List Value,(∀i,i<len->Flat d (at' i))/\∀(G:Bg) k,k<G.base->G.old k=r.1->uA G d.length (t k) len at'/\qb G (t k) len:=by
 rcases h with⟨rfl,rfl,rfl⟩|⟨x,rfl,rfl⟩|⟨x,cc,e,m,rfl,A,z,B,n,C,u⟩
 .refine⟨(none,none),fun _=> .slice none 0 0,⟨fun o h=>by(cases h),fun b s h=>by cases h⟩,fun ρ k _=>by simp only[aF],fun _=>[],fun i g=>by omega,fun G k _ _=>⟨⟨none,0,rfl,fun i g=>by omega⟩,.inl ⟨rfl,rfl⟩⟩⟩
 .refine⟨(none,none),fun _=> .slice (some ⟨0,0,some 0⟩) 0 0,⟨fun o h=>by(cases h),fun b s h=>by cases h⟩,fun ρ k _=>?_,fun _=>[],fun i g=>by omega,fun G k _ _=>⟨⟨some ⟨0,0,some 0⟩,0,rfl,fun i g=>by omega⟩,.inr (.inl ⟨rfl,rfl⟩)⟩⟩;simp only[aF];exact⟨trivial,trivial,x,cap,fun h=>by omega,fun h=>by omega,rfl⟩
 .refine⟨(some (.cells (cc.toList.map san) e m false),some (x.block,(0,0))),fun k=> .slice (some ⟨k,x.off,none⟩) len cap,⟨fun o h b s j=>?_,fun b s j=>?_⟩,fun ρ k j=>?_,fun i=>(cc.toList.drop (x.off+i*d.length)).take d.length,u,fun G k y v=>?_⟩
  .cases h;cases j;refine⟨_,n,fun ρ=>⟨cc,rfl,?_,by simp,fun h=>by cases h⟩⟩;rw[List.length_map,List.drop_zero,List.take_of_length_le (by simp)];exact Z5 _
  .cases j;exact(Array.getElem?_eq_some_iff.1 n).1
  .simp only[aF];exact⟨x.block,(0,0),cap,j,Nat.le_refl _,by simp,by cases x;simp at z;subst z;rfl⟩
  .refine⟨⟨_,_,rfl,fun i g=>⟨k,x.off,_,rfl,⟨y,e,m,false,v⟩,?_,?_⟩⟩,.inr (.inr ⟨k,x.off,cap,_,e,m,rfl,A,B,y,v⟩)⟩
   .rw[<-List.map_drop,<-List.map_take];exact La (u i g)
   .rw[List.length_map];have:i*d.length<=len*d.length:=Nat.mul_le_mul_right _ (by omega);simp;omega
variable {G:Bg} {h:AH} {L:List HP}
end
end Go.Ab
