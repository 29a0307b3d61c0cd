/- A part of the proof. -/
import Derived.Test.YteelnoablpdhbaaGreatDoorChecked
import Derived.Test.YteelnoablpdhbaaGreatDoorO4
import Derived.Test.YteelnoablpdhbaaGreatDoorO7
import Derived.KernelRfl
import Derived.Test.YteelnoablpdhbaaGreatDoorO6
import Derived.LaidLaws
import Derived.MakeChecks
import Derived.WalkKit
import Derived.ProofKit
import Derived.ChangeOld
import Derived.ChangeSame
import Derived.ChangeVars
import Derived.JoinedOf
import Derived.Carry
import Derived.LaidHandle
import Derived.Stop.Joined
import Derived.Test.YteelnoablpdhbaaGreatDoorO2
import Derived.Test.YteelnoablpdhbaaGreatDoorO3
import Derived.Test.YteelnoablpdhbaaGreatDoorO5
import Derived.Lib.ItoaNum
import Derived.Lib.Bytes
set_option linter.all false
set_option maxRecDepth 100000
open Go Go.Ab
namespace Go.Proofs.Z
noncomputable abbrev Pr:Program:=Tryz.prog
noncomputable def K0:FuncId->EK->HQ:=fun f d=>match f,d with
 |242,[.func (.func 306) ⟨[]⟩ ⟨[.pointer<|some ⟨c,0,none⟩]⟩]=>some (.Aa<|Fb 3 c)
 |200,[.iface 303 v,w,l]=>some (.fwd 374 [v,w,l])
 |78,[.slice (some ⟨b,o,none⟩) n _,.func (.func 79) ⟨[]⟩ ⟨[]⟩]=>some (.Aa<|Iq b o n)
 |78,[.slice none 0 0,.func (.func 79) ⟨[]⟩ ⟨[]⟩]=>some (.Aa fun h=>some (.tuple ⟨[]⟩,h))
 |138,[.slice none 0 0,.int .i64 n]=>some (.Aa<|Lh 215 n)
 |_,_=>none
def xR:Pr.globals.size=12:=EU
end Go.Proofs.Z
variable {P:Program} {w:World} {spare:Nat->Bool} {g:Nat} {t:TypeId} {l:EK}
namespace Go.Ab
open Go.RowKit
variable {H:Type}
def Da (f:DataW H->HT) (w:Nat):List (DataW H)->HT
 |[]=>some []
 |d::e=>match f d with
  |some c=>if c.length=w then(Da f w e).map (c++·) else none
  |none=>none
def Bz (f:TypeId->DataW H->HT) (w:TypeId->Nat):List Field->List (DataW H)->Nat->HT
 |[],[],_=>some []
 |x::j,d::e,o=>match f x.type d with
  |some c=>if x.offset=o/\c.length=w x.type then(Bz f w j e<|o+c.length).map (c++·) else none
  |none=>none
 |_,_,_=>none
def Ld (P:Program):Nat->TypeId->DataW H->HT
 |0,_,_=>none
 |n+1,t,d=>match P.underlying t,d with
  |some (.int _),.lit (.int k m)=>some [.int k m]
  |some .bool,.lit (.bool b)=>some [.bool b]
  |some .string,.lit (.string s)=>some [.string ⟨s.toArray⟩]
  |some (.array _ e),.agg j=>match Da (Ld P n e) (P.cellsOf e) j with
   |some l=>if l.length=P.cellsOf t then some l else none
   |none=>none
  |some (.struct o),.agg j=>match Bz (Ld P n) P.cellsOf o.toList j 0 with
   |some l=>if l.length=P.cellsOf t then some l else none
   |none=>none
  |_,_=>none
def Pm {f:DataW H->HT} {w:Nat}:∀{e:List (DataW H)} {l:EK},Da f w e=some l->l.length=e.length*w
 |[],l,h=>by simp[Da] at h;subst h;simp
 |d::e,l,h=>by
  unfold Da at h;split at h;split at h;rename_i j;simp only[aV] at h;obtain⟨r,m,rfl⟩:=h;simp[Pm m,j,ux];omega;cases h;cases h
def Ut {f:DataW H->HT} {w:Nat} {T:EK->Option (DataW H×List MemPlace)} (m:∀c x l,T c=some x->f x.1=some l->c=l):∀(xs:List (DataW H×List MemPlace)) (cs l:EK),
    Da f w (xs.map (·.1))=some l->cs.length=xs.length*w->(∀i,i<xs.length->T ((cs.drop<|i*w).take w)=xs[i]?)->cs=l
 |[],cs,l,h,d,_=>by simp[Da] at h;subst h;exact gg HD
 |x::xs,cs,l,h,d,j=>by
  simp only[kx,Da] at h;split at h;rename_i c hc;split at h;simp only[aV] at h;obtain⟨r,t,rfl⟩:=h;have e:=j 0 EV;simp only[D0,kt,r5] at e;have o:=Ut m xs (cs.drop w) r t (by rw[q5,d,k5,ux];omega) fun i u=>by
   have:=j (i+1) EW;rw[z1] at this;rw[u4,<-this,ux,DE]
  rw[<-wK w cs,m _ _ _ e hc,o];cases h;cases h
def Ro {f:TypeId->DataW H->HT} {w:TypeId->Nat} {T:TypeId->EK->Option (DataW H×List MemPlace)} (m:∀t c x l,T t c=some x->f t x.1=some l->c=l) {cs:EK}:∀(fs:List Field) (xs:List (DataW H×List MemPlace)) (o:Nat) (l:EK),
    Bz f w fs (xs.map (·.1)) o=some l->(∀(i:Nat) (x:Field),fs[i]?=some x->T x.type ((cs.drop x.offset).take<|w x.type)=xs[i]?)->(cs.drop o).take l.length=l
 |[],[],o,l,h,_=>by simp[Bz] at h;subst h;simp
 |[],_::_,_,_,h,_=>by simp[Bz] at h
 |_::_,[],_,_,h,_=>by simp[Bz] at h
 |y::fs,x::xs,o,l,h,j=>by
  simp only[kx,Bz] at h;split at h;rename_i c hc;split at h;rename_i d;simp only[aV] at h;obtain⟨r,u,rfl⟩:=h;have e:=m _ _ _ _ (j 0 y rfl) hc;rw[d.1,<-d.2] at e;rw[bj,List.take_add,u4,e,(Ro m fs xs (o+c.length) r u fun i z v=>j (i+1) z v)];cases h;cases h
variable {enc:TypeId×Value->H} {base:Nat} {held:Bool}
def kj:∀(n:Nat) {t:TypeId} {cs l:EK} {x:DataW H×List MemPlace} {fuel:Nat},DataW.trod enc P w base spare held fuel t cs=some x->Ld P n t x.1=some l->cs=l:=by
 intro n;induction n with
 |zero=>intro t cs l x fuel _ h;cases h
 |succ n J=>
  intro t cs l x fuel u h;unfold Ld at h;split at h;rename_i e d;obtain⟨m,rfl,j,_⟩:=DataW.trod_int e u;rw[j] at d;cases d;cases h;rfl;rename_i e d;obtain⟨m,rfl,j⟩:=DataW.trod_bool e u;rw[j] at d;cases d;cases h;rfl;rename_i e d;obtain⟨m,rfl,j,_⟩:=DataW.trod_string e u;rw[j] at d;cases d;cases h;rfl;rename_i e d;obtain⟨F,m,_,j,I,D,o⟩:=DataW.trod_array e u;rw[j] at d;cases d;split at h;rename_i r v;split at h;rename_i A;cases h;have:=Pm v;rw[js] at this;exact Ut (T:=DataW.trod enc P w base spare held m _) (fun c y l h1 z=>J h1 z) F cs l v (by rw[I,<-A,this]) fun i O=>o i ER;cases h;cases h;rename_i e d;obtain⟨F,m,_,j,I,D,o⟩:=BT e u;rw[j] at d;cases d;split at h;rename_i r v;split at h;cases h;have:=Ro (w:=P.cellsOf) (T:=fun t c=>DataW.trod enc P w base spare held m t c) (fun t c y l h1 z=>J h1 z) (cs:=cs) _ F 0 l v fun i y N=>o i y (by rw[<-N,AF]);rw[kt,e8 ER] at this;exact this;cases h;cases h;cases h
def Iu {n:String} {d:DataW Unit}:∀{laid:List (String×DataW Unit)} {ps:List MemPlace},DataW.LaidVars P w laid ps->(n,d)∈laid->
  ∃g t j fuel p,P.globalNamed n=some g/\(P.globals[g]?).map (·.type)=some t/\w.var? P n=some j/\DataW.trod (fun _=>()) P w 0 (fun _=>true) false fuel t j.toList=some (d,p)
 |[],_,_,m=>by cases m
 |(A,z)::r,ps,h,m=>by
  obtain⟨g,t,j,fuel,p,q,h1,o,u,v,y,_⟩:=h;rcases j2.1 m with e|e;cases e;exact⟨g,t,j,fuel,p,h1,o,u,v⟩;exact Iu y e
def yA {laid:List (String×DataW Unit)} {n:String} {d:DataW Unit} (fuel:Nat) (A:(laid.all fun x=>x.2.handleName?.isNone)=true) (h:laidMetH P laid w) (z:(n,d)∈laid)
  (o:P.globalNamed n=some g) (D:(P.globals[g]?).map (·.type)=some t) (hc:Ld P fuel t d=some l):∃e m,w.heap[g]?=some (.cells ⟨l⟩ e m):=by
 rw[Go.MakeChecks.laidMetH_plain _ _ _ A] at h
 obtain⟨J,F,_⟩:=h
 obtain⟨I,N,r,f,p,h1,u,j,v⟩:=Iu F z
 obtain rfl:=Option.some.inj<|o.symm.trans h1
 obtain rfl:=Option.some.inj<|D.symm.trans u
 have:=kj fuel v hc
 simp only[World.var?,o,AT] at j
 split at j
 .rename_i c e m y;cases j;refine⟨e,m,?_⟩;rw[y];cases r;subst this;rfl
 .cases j
end Go.Ab
variable {f:FuncId} {d m:List (Option IntKind)} {W:World} {e:TypeId} {v:Value} {n:Nat}
namespace Go.Ab
open Go.RowKit Go.ChangeShapes Go.WideShapes Go.ChangeAt
variable {H:Type} {enc:TypeId×Value->H}
def jw (P:Program) (d:List TypeId):Bool:=d.all fun t=>P.readableRec t&&decide (t<P.types.size)
def Tg {P:Program} (u:laidOutB P=true) {W r:World} (hb:Below W.heap.size W r):∀(e:List TypeId) {vs:EK} {j:List (DataW H)} {ps:List MemPlace},jw P e=true->
  DataW.TrodAll enc P W 0 (fun _=>true) true e vs j ps->DataW.TrodAll enc P r 0 (fun b=>decide<|b<W.heap.size) true e vs j ps
 |[],vs,j,ps,_,h=>by
  obtain⟨rfl,rfl,rfl⟩:=trodAll_nil h;exact trodAll_mk0
 |t::e,vs,j,ps,o,h=>by
  obtain⟨v,D,d,y,p,q,rfl,rfl,rfl,h1,z⟩:=trodAll_cons h;simp only[jw,BQ,dn,DQ] at o;exact trodAll_cons_mk (Below.trod u o.1.1 o.1.2 h1 hb<|by obtain⟨m,A⟩:=h1;exact DataW.trod_lt m _ _ _ A)<|Tg u hb e o.2 z
def Cb {P:Program} {w:World} {base:Nat} {spare:Nat->Bool} {held:Bool}:∀(j:List TypeId) {vs:EK} {e:List (DataW H)} {ps:List MemPlace},
    DataW.TrodAll enc P w base spare held j vs e ps->e.length=j.length
 |[],vs,e,ps,h=>by obtain⟨rfl,rfl,rfl⟩:=trodAll_nil h;rfl
 |t::j,vs,e,ps,h=>by
  obtain⟨v,r,d,m,p,q,rfl,rfl,rfl,h1,o⟩:=trodAll_cons h;simp[Cb j o]
def mz {C:Checked} {os:Os} (started:os.Started) {d:Func} {s:ChangeSpec} {laid:List (String×DataW Unit)} {V:TypeId} {gO handsOn:Bool}
  (oA:ownKnob C.prog.godebug=none) (r:C.prog.inits.idxOf? f=none) (I:C.prog.funcs[f]?=some d) (J:laidOutB C.prog=true) (N:jw C.prog d.params.toList=true)
  (A:d.resultTypes= #[V]) (O:C.prog.underlying V=some .bool) (m:s.vars=[])
  (y:∀o:List (DataW H),o.length=d.params.size->s.fn H o={results:=[.lit<|.bool true],args:=o})
  (witness:∃(w:World) (tape:Tape) (i:Input),w.os=os/\(w.forCall tape i).Shaped C.prog/\i.vars=[]/\Input.okWide C.prog (w.forCall tape i) .any w.heap.size f i/\
   ((s.pre enc C.prog d [] false (w.forCall tape i).memory i.args/\laidMetH C.prog laid (w.forCall tape i).memory)/\sizedMet enc C.prog d (OpenSpec.ofChange s) false (w.forCall tape i).memory i.args)/\({}:Assume).holds C.prog (lone (Frame.enter C.prog f i.args .normal) []<|w.forCall tape i))
  (Er:∀(W:World) (base:Nat) (args:EK) (o:List (DataW H)) (ps:List MemPlace),DataW.TrodAll enc C.prog W 0 (fun _=>true) true d.params.toList args o ps->
   (∀(j:Nat) t v,d.params[j]?=some t->args[j]?=some v->Value.okWide C.prog W .any base t v)->laidMetH C.prog laid W->Calls C.prog f ⟨args⟩ W fun e Q=>e= .returned (.bool true)/\Below W.heap.size W Q):
  ReturnsInHanded {} C os f .any (fun w args=>(s.pre enc C.prog d [] false w args/\laidMetH C.prog laid w)/\sizedMet enc C.prog d (OpenSpec.ofChange s) false w args) (s.post enc C.prog d false gO handsOn false):=by
 apply returnsInHanded_of_change_and (C:=C) (X:=fun w _=>laidMetH C.prog laid w) (fun _ _ _ hh h=>h.of_heap hh) oA started r I witness
 intro W base args o gs before D U _ _ hL _
 have F:=U
 obtain⟨p,q,hA,T,rfl,β,γ⟩:=U
 rw[m] at T
 obtain⟨rfl,rfl⟩:=trodVars_none T
 have u:=y o (by rw[Cb _ hA];simp)
 obtain⟨args⟩:=args
 refine(Er W base args o p hA (fun j t v h1 Y=>D j t v h1<|by simpa using Y) hL).mono fun e Q ⟨he,z⟩=>?_
 subst he
 refine⟨_,rfl,o,[],_,[],p,[],F,?_,?_,?_,z.frame _,fun h=>EY⟩
 .rw[hX,u,A];exact trodAll_mk1<|shut_bool O _
 .rw[hX,u];exact Tg J z _ N hA
 .rw[hX,u,m];rfl
def jT {k:IntKind} (h:pI (some k::d) l):∃(n:Int) (e:EK),l= .int k n::e/\pI d e:=by
 cases l with
 |nil=>exact h.elim
 |cons v l=>obtain⟨⟨n,rfl,_⟩,h⟩:=h;exact⟨n,l,rfl,h⟩
def Ja (h:pI [] l):l=[]:=by
 cases l with
 |nil=>rfl
 |cons v l=>exact h.elim
def yy {base:Nat} {d:DataW H} {p:List MemPlace} (u:P.underlying t=some (.slice e)) (A:vU P n e=some m) (hc:P.cellsOf e=m.length) (z:0<m.length)
  (o:Value.okWide P W .any base t v) (h:DataW.Trod enc P W 0 (fun _=>true) true t v d p):∃a len j,v= .slice a len j/\oL m W a len j:=by
 obtain⟨a,len,j,rfl⟩:=okWide_slice u o
 obtain⟨fuel,D⟩:=h
 obtain⟨I,y,r,⟨rfl,rfl,rfl⟩,F⟩:=Kd u A hc z D
 exact⟨_,_,_,rfl,F⟩
end Go.Ab
variable {B i:Nat} {ρ:jB} {T:Nat->Bool} {s:Nat×Nat} {L:List (HT)} {E:Nat->TypeId} {Z:Nat->Nat×Nat} {c:EK}
namespace Go.Ab
noncomputable section
variable {h hc:AH}
abbrev Sg:=Nat->Nat×Nat×Nat
def rn (σ:Sg):Value->Value
 |.pointer (some a)=> .pointer (some ⟨(σ a.block).1,(σ a.block).2.1+a.off,a.spot⟩)
 |.slice (some ⟨i,o,none⟩) l c=> .slice (some ⟨(σ i).1,(σ i).2.1+o,none⟩) l ((σ i).2.2+c)
 |v=>v
def Rc (σ:Sg):Value->Value->Prop
 |.chan _,_=>True
 |.slice (some ⟨_,_,some _⟩) _ _,w=>∃a c,w= .slice (some a) 0 c
 |v,w=>rn σ v=w
def Rcs (σ:Sg):EK->EK->Prop
 |[],[]=>True
 |v::l,w::t=>Rc σ v w/\Rcs σ l t
 |_,_=>False
def okV (T:Nat->Bool):Value->Bool
 |.func _ _ _|.agg _|.tuple _|.iface _ _|.map _|.chan (some _)=>false
 |.pointer (some a)=>T a.block
 |.slice (some ⟨i,_,none⟩) _ _=>T i
 |.slice (some ⟨_,_,some x⟩) l c=>Nat.beq x 0&&(Nat.beq l 0&&Nat.beq c 0)
 |_=>true
def Gq (σ:Sg) (T:Nat->Bool) (ρ:jB):jB:=fun i=>if T i then(ρ (σ i).1).map fun x=>(x.1,(x.2.1+(σ i).2.2,x.2.2+(σ i).2.1)) else none
def u0 {σ:Sg} {b:Nat} (d:T i=true) (h:ρ (σ i).1=some (b,s)):Gq σ T ρ i=some (b,(s.1+(σ i).2.2,s.2+(σ i).2.1)):=by
 rw[Gq,aXg d,h];rfl
def aEl {σ:Sg}:∀{v u r:Value},okV T v=true->Rc σ v u->aZ ρ u r->aZ (Gq σ T ρ) v r
 |.pointer none,_,_,_,e,k=>FI
 |.pointer (some _),_,_,d,e,k=>by
  cases e;obtain⟨b,s,m,e⟩:=k;exact⟨b,_,u0 d m,GD⟩
 |.slice none _ _,_,_,_,e,k=>FI
 |.slice (some ⟨_,_,some _⟩) _ _,_,_,d,⟨a,c,e⟩,k=>by
  cases e;simp[okV,dn,Nat.beq_eq] at d;obtain⟨rfl,rfl,rfl⟩:=d;obtain⟨b,o,x⟩:=a;cases x with
  |none=>obtain⟨b,s,j,_,_,_,e⟩:=k;exact⟨rfl,rfl,_,_,nofun,nofun,e⟩
  |some x=>obtain⟨_,_,t,j,_,_,e⟩:=k;exact⟨rfl,rfl,_,_,nofun,nofun,e⟩
 |.slice (some ⟨_,_,none⟩) _ _,_,_,d,e,k=>by
  cases e;obtain⟨b,s,j,m,h1,A,e⟩:=k;exact⟨b,_,j,u0 d m,ER,ER,GD⟩
 |.bool _,_,_,_,e,k=>FI
 |.int _ _,_,_,_,e,k=>FI
 |.float _ _,_,_,_,e,k=>FI
 |.complex _ _ _,_,_,_,e,k=>FI
 |.string _,_,_,_,e,k=>FI
 |.nilFunc,_,_,_,e,k=>FI
 |.nilIface,_,_,_,e,k=>FI
 |.chan none,_,_,_,_,_=>trivial
 |.chan (some _),_,_,d,_,_=>HC
 |.map _,_,_,d,_,_=>HC
 |.func _ _ _,_,_,d,_,_=>HC
 |.agg _,_,_,d,_,_=>HC
 |.tuple _,_,_,d,_,_=>HC
 |.iface _ _,_,_,d,_,_=>HC
def V9 {σ:Sg} {T:Nat->Bool}:∀{l u j:EK},l.all (okV T)=true->Rcs σ l u->bH ρ u j->bH (Gq σ T ρ) l j
 |[],[],_,_,_,k=>k
 |v::l,_::_,_,d,⟨h1,m⟩,k=>by
  obtain⟨y,t,o,r,rfl⟩:=k;rw[BQ,dn] at d;exact⟨y,t,aEl d.1 h1 o,V9 d.2 m r,rfl⟩
 |[],_::_,_,_,e,_=>e.elim
 |_::_,[],_,_,e,_=>e.elim
def aEw {d:EK} (k:bH ρ l d):∀(a b:Nat),bH ρ ((l.drop a).take b) ((d.drop a).take b):=by
 have o:∀(b:Nat) {l d:EK},bH ρ l d->bH ρ (l.take b) (d.take b):=fun b=>by
  induction b with
  |zero=>intro _ _ _;exact rfl
  |succ b e=>
   intro l d k;cases l with
   |nil=>cases k;exact rfl
   |cons v l=>obtain⟨m,t,r,j,rfl⟩:=k;exact⟨m,_,r,e j,rfl⟩
 intro a b;apply o b;induction a generalizing l d with
 |zero=>exact k
 |succ a e=>
  cases l with
  |nil=>cases k;exact rfl
  |cons v l=>obtain⟨m,t,_,j,rfl⟩:=k;exact e j
def aFg (L:List (HT)) (E:Nat->TypeId) (Z:Nat->Nat×Nat):Nat->HW:=fun i=>(L[i]?.join).map fun c=> .cells c (E i) (Z i) false
abbrev isT (g:Nat) (L:List (HT)) (i:Nat):Bool:=Nat.blt i g||(L[i]?.join).isSome
structure Js (P:Program) (g:Nat) (σ:Sg) (L:List (HT)) (E:Nat->TypeId) (Z:Nat->Nat×Nat) (h:AH):Prop where
 oP:∀i c,L[i]?.join=some c->∃ch x,h.get (σ i).1=some (.cells ch (E i) (Z i) x)/\Rcs σ c ((ch.drop (σ i).2.1).take c.length)/\(σ i).2.1+c.length+(σ i).2.2*P.cellsOf (E i)<=ch.length
 ok:(L.all fun x=>(x.getD []).all<|okV<|isT g L)=true
 pO:P.globals.size<=g/\g<=L.length
 gs:∀i,i<g->σ i=(i,0,0)
variable {σ:Sg}
def Js.oks (d:Js P g σ L E Z h) (e:L[i]?.join=some c):c.all (okV<|isT g L)=true:=by
 cases k:L[i]? with
 |none=>rw[k] at e;cases e
 |some x=>
  rw[k] at e;have:=lP.1 d.ok x<|fm k;cases x with
  |none=>cases e
  |some y=>cases e;exact this
def bp (u:pK P B ρ h w) (t:Js P g σ L E Z h) {b:Nat} {o:oU} (d:aFg L E Z i=some o) (j:Gq σ (isT g L) ρ i=some (b,s)):
  ∃m,w.heap[b]?=some m/\wP P (Gq σ (isT g L) ρ) s o m:=by
 rw[aFg] at d
 cases hL:L[i]?.join with
 |none=>rw[hL] at d;cases d
 |some c=>
  rw[hL] at d;cases d
  rw[Gq] at j
  split at j
  .have⟨⟨b',s'⟩,hb,e⟩:=aV.1 j;cases e;have⟨ch,x,h1,h2,h3⟩:=t.oP i c hL;have⟨m,h4,c',h5,h6,h7,_⟩:=u.oP _ _ h1 _ _ hb;have r:=aEw h6 (σ i).2.1 c.length;refine⟨m,h4,c',h5,?_,?_,nofun⟩
   .rw[CL,u4,List.take_take,EB ER] at r;exact V9 (t.oks hL) h2 r
   .show s'.2+_+_+(s'.1+_)*_<=_;rw[BV];omega
  .cases j
def aE4 (r:pK P B ρ h w) (j:Js P g σ L E Z h) (t:g<=w.heap.size) (m:∀i,i<g->ρ i=some (i,(0,0))) {b:Nat} (d:Gq σ (isT g L) ρ i=some (b,s)):b<w.heap.size:=by
 cases hL:L[i]?.join with
 |none=>
  unfold Gq isT at d;rw[hL] at d;split at d;rename_i e;have e:i<g:=GY
  rw[j.gs i e,m i e] at d;cases d;omega;cases d
 |some c=>
  have⟨_,h1,_⟩:=bp r j (o:= .cells c (E i) (Z i) false) (by rw[aFg,hL];rfl) d;exact(fj.1 h1).1
end
noncomputable section
open Go.RowKit
variable {h:AH} {K:FuncId->EK->HQ} {σ:Sg}
abbrev Md (L:List (HT)) (E:Nat->TypeId) (Z:Nat->Nat×Nat):AH:=qR L.length<|aFg L E Z
def Oc (j:P.globals.size=g) (u:g<=w.heap.size) (d:pK P B ρ h w) (e:Js P g σ L E Z h):Uz P L.length (aFg L E Z) (Gq σ (isT g L) ρ) w where
 oP:=fun _ _ _ t _ _ o=>bp d e t o
 low:=fun i b s _ o=>aE4 d e u (fun i h=>d.pO i<|j▸h) o
 none:=fun i r=>aXf (by
  have:=e.pO.2;simp only[isT,BA,BJ,not_or];exact⟨ER,by rw[l5 r];exact nofun⟩)
 pO:=fun i m=>by
  rw[Gq,aXg<|by simp[<-j,m],e.gs i<|j▸m,d.pO i m];rfl
def Ze (C:Lc P w.heap.size K) (J:C.G w) (A:P.globals.size=g) (O:g<=w.heap.size) (t:pK P B ρ h w) (N:Js P g σ L E Z h) {args d:EK}
  (I:bH (Gq σ (isT g L) ρ) args d) (u:((run P K n (.call f args)<|Md L E Z).any fun r=>rZ r.1.v v)=true) (y:gR v=true):
  Calls P f ⟨d⟩ w fun e w'=>∃ρ' j,e= .returned j/\aZ ρ' v j/\mU P B ρ h w ρ' h w':=by
 rw[DL] at u
 obtain⟨⟨o,h1⟩,z,m⟩:=u
 exact(Q3 C J (Oc A O t N) I (Q:=fun o _=>o.v=v) ⟨n,_,z,Q9 _ _ m⟩).mono fun e w' ⟨ρ',o,T,j,h1,m,D,_,F⟩=>⟨ρ,j,h1,by rw[wX v j y<|D▸m];exact fU v y,pM t F⟩
end
end Go.Ab
variable {w':World}
namespace Go.Ab
open Go.RowKit
variable {ρ1:jB} {h h1:AH}
theorem aGn (e:mU P B ρ h w ρ1 h1 w') {o:oU} {o':Obj} (hb:wP P (tC ρ1 h1.next (g,s)) s o o') (hg:w'.heap[g]?=some o') (hB:B<=g) (W:w.heap.size<=g)
  (F:∀i s',h1.base<=i->(h1.get i).isSome->ρ1 i≠some (g,s')):mU P B ρ h w (tC ρ1 h1.next (g,s)) (h1.alloc o) w':=by
 have t:=e.inv
 have y:A6 ρ1 (tC ρ1 h1.next (g,s)):=A6.tC<|t.gO _<|ba _
 have d:∀j,(h1.alloc o).get j=if j=h1.next then some o else h1.get j:=fun j=>AH.tQ t.bn
 have X:=e.next
 refine {ext:=e.ext.trans y,inv:=?_,un:=?_,pF:=?_,stay:=?_,frame:=e.frame,range:=?_,base:=e.base,yR:=?_,next:=tb e.next,size:=e.size,os:=e.os,out:=e.out,tape:=e.tape}
 .refine {oP:=?_,inj:=?_,low:=?_,old:=?_,gO:=?_,jD:=?_,pO:=fun V O=>y _ _<|t.pO V O,size:=t.size,bn:=tb t.bn}
  .intro i Y D b s1 A;rw[d] at D;by_cases e:i=h1.next
   .simp_all [bV]
   .rw[aXf e] at D;rw[bY e] at A;have⟨o2,T,U⟩:=t.oP i Y D b s1 A;exact⟨o2,T,U.mono y⟩
  .intro i j b si sj m N u J r I;rw[d] at u J;by_cases e:i=h1.next
   .by_cases v:j=h1.next
    .rw[e,v]
    .rw[aXf v] at J;rw[bY v] at I;subst e;rw[bV] at r;cases r;exact absurd I<|F j _ N J
   .rw[aXf e] at u;rw[bY e] at r;by_cases v:j=h1.next
    .subst v;rw[bV] at I;cases I;exact absurd r<|F i _ m u
    .rw[aXf v] at J;rw[bY v] at I;exact t.inj i j b si sj m N u J r I
  .intro i b s1 m u r;rw[d] at u;by_cases e:i=h1.next
   .subst e;rw[bV] at r;cases r;exact hB
   .rw[aXf e] at u;rw[bY e] at r;exact t.low i b s1 m u r
  .intro i b s1 m r;rw[bY fun e=>by have:=t.bn;simp at m;omega] at r;exact t.old i b s1 m r
  .intro i F;simp at F;rw[bY ER];exact t.gO i ER
  .intro i F;simp at F;rw[d,aab];exact t.jD i ER
 .intro i z A;rw[bY ER];exact e.un i z A
 .intro i z A;rw[d,aab];exact e.pF i z A
 .intro i z A;rw[d,aab];exact e.stay i z A
 .intro i b s1 m u r Q;rw[d] at u;by_cases v:i=h1.next
  .subst v;rw[bV] at r;cases r;omega
  .rw[aXf v] at u;rw[bY v] at r;exact e.range i b s1 m u r Q
 .intro i hb;have T:=t.bn;have U:=e.base;rw[d,aab];exact e.yR i hb
end Go.Ab
variable {b:Bool} {lv p:EM} {Q q:Value->AH->Prop} {A cs env vs:EK} {op:Op} {x:Operand} {M:Nat} {all:List Oper} {j:List (Nat×Nat)} {es:HY} {F:List (Nat×List (Nat×Nat))}
namespace Go.Ab
noncomputable section
open Go.RowKit
variable {ρ1:jB} {h h1:AH}
def okN (l:EM):Value->Bool
 |.int _ _|.bool _|.slice none _ _=>true
 |.slice (some ⟨i,_,none⟩) _ _=>l.contains i
 |_=>false
def Ym {ρ2:jB}:∀{l j:EK},l.all (okN [])=true->bH ρ l j->bH ρ2 l j
 |[],_,_,k=>k
 |v::t,_,d,⟨r,o,h1,m,e⟩=>by
  rw[BQ,dn] at d;refine⟨r,o,?_,Ym d.2 m,e⟩;have d:=d.1;unfold okN at d;split at d;exact h1;exact h1;exact h1;cases d;cases d
def okB:oU->Bool
 |.cells c _ _ _=>c.all (okN [])
 |_=>false
def aLj {ρ2:jB} {o:oU} {o':Obj} (d:okB o=true) (k:wP P ρ s o o'):wP P ρ2 s o o':=by
 cases o with
 |cells c e u x=>obtain⟨j,m,h1,r,t⟩:=k;exact⟨j,m,Ym d h1,r,t⟩
 |_=>cases d
def Cj (h' h:AH):EM->AH
 |[]=>h
 |j::l=>(Cj h' h l).alloc<|(h'.get j).getD<|.vA true
def X4 (ρ2 ρ':jB) (n:Nat):EM->Prop
 |[]=>True
 |j::l=>ρ2 (n+l.length)=ρ' j/\X4 ρ2 ρ' n l
def X4.ext {ρ2 ρ3 ρ':jB} {n:Nat} (m:A6 ρ2 ρ3):∀{l:EM},(∀j∈l,(ρ' j).isSome)->X4 ρ2 ρ' n l->X4 ρ3 ρ' n l
 |[],_,_=>trivial
 |j::l,d,⟨e,k⟩=>by
  have⟨x,hx2⟩:=cO.1<|d j ei;exact⟨by rw[hx2];exact m _ _<|e.trans hx2,X4.ext m (fun j o=>d j<|eK _ o) k⟩
def dr (F:pK P B ρ h w) (u:Below w.heap.size w w') {ρ':jB} {h':AH} (r:pK P w.heap.size ρ' h' w'):∀{l:EM},l.Nodup->(∀j∈l,h'.base<=j/\∃o,h'.get j=some o/\okB o=true/\(ρ' j).isSome)->
  ∃ρ2,mU P B ρ h w ρ2 (Cj h' h l) w'/\X4 ρ2 ρ' h.next l/\(Cj h' h l).next=h.next+l.length/\
   ∀i g z,(Cj h' h l).base<=i->((Cj h' h l).get i).isSome->ρ2 i=some (g,z)->g<w.heap.size\/∃j∈l,∃s2,ρ' j=some (g,s2)
 |[],_,_=>⟨ρ,pM F u,trivial,rfl,fun i g z _ T y=> .inl (by
   have⟨o,ho⟩:=cO.1 T;have⟨o',h1,_⟩:=F.oP i o ho g z y;exact(fj.1 h1).1)⟩
 |j::l,O,I=>by
  rw[AE] at O;have⟨ρ2,e,ht,hn,hin⟩:=dr F u r O.2 fun j Q=>I j<|eK _ Q;have⟨hbj,o,ho,hok,hs⟩:=I j ei;have⟨⟨b,s⟩,y⟩:=cO.1 hs;have⟨o',h1,h2⟩:=r.oP j o ho b s y;have D:=r.low j b s hbj (by rw[ho];rfl) y;have q:=aGn e (o:=o) (s:=s) (aLj hok h2) h1 (hI F.size D) D fun i z v m d=>by
   rcases hin i b z v m d with A|⟨J,t,s2,A⟩;omega;have⟨hb2,o2,ho2,_⟩:=I J<|eK _ t;exact O.1<|(r.inj j J b s s2 hbj hb2 (by rw[ho];rfl) (by rw[ho2];rfl) y A)▸t
  have eq:Cj h' h (j::l)=(Cj h' h l).alloc o:=by
   show(Cj h' h l).alloc ((h'.get j).getD _)=_;rw[ho];rfl
  rw[eq];refine⟨_,q,⟨by rw[<-hn,bV,y],X4.ext (A6.tC<|e.inv.gO _<|ba _) (fun j Q=>(I j<|eK _ Q).2.elim fun _ k=>k.2.2) ht⟩,by show(Cj h' h l).next+1=_;rw[hn];rfl,fun i g z v m d=>?_⟩;rw[AH.tQ e.inv.bn] at m;by_cases N:i=(Cj h' h l).next
  subst N;rw[bV] at d;cases d;exact .inr ⟨j,ei,s,y⟩;rw[aXf N] at m;rw[bY N] at d;rcases hin i g z v m d with A|⟨J,t,A⟩;exact .inl A;exact .inr ⟨J,eK _ t,A⟩
end
noncomputable section
open Go.RowKit
variable {h:AH} {K:FuncId->EK->HQ}
def nw (p:Nat->Nat):Value->Value
 |.slice (some ⟨i,o,x⟩) l c=> .slice (some ⟨p i,o,x⟩) l c
 |v=>v
def Mt (n:Nat):EM->Nat->Nat
 |[],i=>i
 |j::l,i=>if i=j then n+l.length else Mt n l i
def sx {ρ2 ρ':jB} {n:Nat}:∀{l:EM} {i:Nat},X4 ρ2 ρ' n l->l.contains i=true->ρ2 (n+Mt 0 l i)=ρ' i
 |[],_,_,m=>by cases m
 |j::l,i,⟨e,k⟩,m=>by
  rw[Mt];split;rename_i d;rwa [d,AQ];rename_i d;exact sx k (by simpa [d] using m)
def aDu {l:EM} {n:Nat} {ρ' ρ2:jB} (m:X4 ρ2 ρ' n l):∀{cs j:EK},cs.all (okN l)=true->bH ρ' cs j->bH ρ2 (cs.map<|nw fun i=>n+Mt 0 l i) j
 |[],_,_,k=>k
 |v::cs,_,d,⟨y,u,h1,r,e⟩=>by
  cases e;rw[BQ,dn] at d;refine⟨y,u,?_,aDu m d.2 r,rfl⟩;have d:=d.1;unfold okN at d;split at d;exact h1;exact h1;exact h1;obtain⟨b,s,o,t,k⟩:=h1;exact⟨b,s,o,(sx m d).trans t,k⟩;cases d
def xP (h:AH):List oU->AH
 |[]=>h
 |o::l=>(xP h l).alloc o
def aPx:HW->oU->Bool
 |some (.cells c e z x),.cells j m d y=>Po c j&&(Nat.beq e m&&(Nat.beq z.1 d.1&&(Nat.beq z.2 d.2&&(bif x then y else !y))))
 |_,_=>false
theorem aKr:∀{o:HW} {o':oU},aPx o o'=true->o=some o'
 |some (.cells c e z x),.cells t u r y,h=>by
  simp only[aPx,dn,Nat.beq_eq] at h;obtain⟨h1,d,j,m,v⟩:=h;rw[Nj _ _ h1,d,Prod.ext (x:=z) (y:=r) j m];cases x<;>cases y<;>simp_all
 |none,_,h=>EY
 |some (.loop ..),_,h=>EY
 |some (.vA _),_,h=>EY
 |some (.map ..),_,h=>EY
 |some (.mapIter ..),_,h=>EY
 |some (.N4 ..),_,h=>EY
 |some (.cells ..),.loop ..,h=>EY
 |some (.cells ..),.vA _,h=>EY
 |some (.cells ..),.map ..,h=>EY
 |some (.cells ..),.mapIter ..,h=>EY
 |some (.cells ..),.N4 ..,h=>EY
def aKp (h':AH):EM->List oU->Bool
 |[],[]=>true
 |j::l,o::d=>aPx (h'.get j) o&&(okB o&&(!(l.contains j)&&aKp h' l d))
 |_,_=>false
def r8 {h':AH} (h:AH):∀{l:EM} {d:List oU},aKp h' l d=true->Cj h' h l=xP h d/\l.Nodup/\∀j∈l,∃o,h'.get j=some o/\okB o=true
 |[],[],_=>⟨rfl,List.nodup_nil,fun _ h=>EY⟩
 |j::l,o::d,r=>by
  simp only[aKp,dn] at r;obtain⟨h1,t,u,v⟩:=r;have⟨k1,k2,k3⟩:=r8 h v;have e:=aKr h1;exact⟨by show(Cj h' _ l).alloc _=(xP _ d).alloc o;rw[k1,e];rfl,AE.2 ⟨by simpa using u,k2⟩,fun i m=>by
   rcases j2.1 m with rfl|m;exact⟨o,e,t⟩;exact k3 i m⟩
 |[],_::_,h=>EY
 |_::_,[],h=>EY
def aQl (j:Nat):Value->Bool
 |.slice (some ⟨i,_,none⟩) _ _=>Nat.beq i j
 |_=>false
def Uv {ρ':jB} {j:Nat}:∀{cs d:EK},cs.any (aQl j)=true->bH ρ' cs d->(ρ' j).isSome=true
 |[],_,h,_=>EY
 |v::cs,_,h,⟨u,t,h1,m,e⟩=>by
  rw[List.any_cons,BA] at h;rcases h with h|h;unfold aQl at h;split at h;obtain⟨b,s,r,o,_⟩:=h1;rw[<-pw h,o];rfl;cases h;exact Uv h m
def aJs (base:Nat) (cs A:EK) (d:List oU) (l:EM) (h':AH):Bool:=
 Po (cs.map<|nw fun i=>Mt 0 l i) A&&(cs.all (okN l)&&(aKp h' l d&&(l.all (fun j=>Nat.ble base j&&cs.any (aQl j))&&Nat.beq h'.base base)))
def aT3 {p q:Nat->Nat}:(cs.map<|nw p).map (nw q)=cs.map (nw fun i=>q<|p i):=by
 rw[BD];refine sr fun v _=>?_;cases v with
 |slice a _ _=>cases a<;>rfl
 |_=>rfl
def r7 (J:pK P B ρ h w) (e:Below w.heap.size w w') {ρ':jB} {h':AH} (r:pK P w.heap.size ρ' h' w') {base:Nat} {d:EK} {t:List oU} {l:EM} (v:aJs base cs A t l h'=true) (y:bH ρ' cs d):
  ∃ρ2,bH ρ2 (A.map<|nw (h.next+·)) d/\mU P B ρ h w ρ2 (xP h t) w':=by
 simp only[aJs,dn] at v
 obtain⟨h1,z,D,F,I⟩:=v
 have⟨k1,k2,k3⟩:=r8 h D
 have⟨ρ2,q1,q2,_⟩:=dr J e r k2 fun j u=>by
  have⟨o,ho,hk⟩:=k3 j u;have m:=lP.1 F j u;rw[dn] at m;exact⟨by rw[pw I];exact l7 m.1,o,ho,hk,Uv m.2 y⟩
 rw[k1] at q1
 refine⟨ρ2,?_,q1⟩
 rw[<-Nj _ _ h1,aT3]
 exact aDu q2 z y
def unB (b:Bool):Value->HT
 |.agg ⟨l⟩=>bif b then none else some l
 |.tuple ⟨l⟩=>bif b then some l else none
 |_=>none
def mkB (b:Bool) (l:EK):Value:=bif b then .tuple ⟨l⟩ else .agg ⟨l⟩
def aNi (h:unB b v=some l):v=mkB b l:=by
 cases v with
 |agg c=>cases b<;>cases h;rfl
 |tuple c=>cases b<;>cases h;rfl
 |_=>cases h
def aM9:EK->EM
 |[]=>[]
 |.slice (some a) _ _::l=>aM9 l++[a.block]
 |_::l=>aM9 l
def aFh {σ:Sg} (b:Bool) (C:Lc P w.heap.size K) (hg:C.G w) (Y:P.globals.size=g) (hw:g<=w.heap.size) (u:pK P B ρ h w) (hp:Js P g σ L E Z h) {args d:EK} {D:List oU}
  (ha:bH (Gq σ (isT g L) ρ) args d) (N:((run P K n (.call f args)<|Md L E Z).any fun r=>(unB b r.1.v).any fun t=>aJs L.length t A D (aM9 t) r.2)=true):
  Calls P f ⟨d⟩ w fun e w'=>∃ρ2 m,e= .returned m/\aZ ρ2 (mkB b<|A.map<|nw (h.next+·)) m/\mU P B ρ h w ρ2 (xP h D) w':=by
 rw[DL] at N
 obtain⟨⟨o,h1⟩,W,I⟩:=N
 rw[DL] at I
 obtain⟨t,X,J⟩:=I
 refine(Q3 C hg (Oc Y hw u hp) ha (Q:=fun V F=>V=o/\F=h1) ⟨n,_,W,rfl,rfl⟩).mono fun e w' ⟨ρ',V,F,m,O,v,⟨k3,k4⟩,T,U⟩=>?_
 subst k3 k4
 rw[aNi X] at v
 cases b with
 |false=>
  obtain⟨j,y,z⟩:=v
  have⟨ρ2,q1,q2⟩:=r7 u U T J y
  exact⟨ρ2,m,O,⟨j,q1,z⟩,q2⟩
 |true=>
  obtain⟨j,y,z⟩:=v
  have⟨ρ2,q1,q2⟩:=r7 u U T J y
  exact⟨ρ2,m,O,⟨j,q1,z⟩,q2⟩
end
noncomputable section
open Go.RowKit
variable {K:FuncId->EK->HQ}
def orK (F K:FuncId->EK->HQ):FuncId->EK->HQ:=fun f d=>match F f d with
 |some a=>some a
 |none=>K f d
def Lc.or (C:Lc P B K) (F:FuncId->EK->HQ) (z:∀f d v w,F f d=some (.val v)->C.G w->qD d=true/\Calls P f ⟨d⟩ w fun e w'=>(∃o,e= .returned o/\∀ρ,aZ ρ v o)/\Below w.heap.size w w')
  (u:∀f d g r,F f d≠some (.fwd g r)) (y:∀f d H,F f d=some (.Aa H)->∀(h:AH) (v:Value) (h':AH),H h=some (v,h')->∀(ρ:jB) (w:World) (m:EK),pK P B ρ h w->C.G w->bH ρ d m->
   Calls P f ⟨m⟩ w fun e w'=>∃ρ' o,e= .returned o/\aZ ρ' v o/\mU P B ρ h w ρ' h' w'):Lc P B (orK F K) where
 G:=C.G
 On:=C.On
 call:=fun f d v w j t=>by
  rw[orK] at j;split at j;rename_i hF;rw[j] at hF;exact z f d v w hF t;exact C.call f d v w j t
 fwd:=fun f d g r j=>by
  rw[orK] at j;split at j;rename_i hF;rw[j] at hF;exact absurd hF<|u f d g r;exact C.fwd f d g r j
 Aa:=fun f d H j=>by
  rw[orK] at j;split at j;rename_i hF;rw[j] at hF;exact y f d H hF;exact C.Aa f d H j
end
variable {dst:Option Tmp} {id:Nat} {ops:Array Oper} {ps:Array Tmp} {st:LoopState} {pd:Option Code}
noncomputable section
variable {K:FuncId->EK->HQ}
theorem gU.cons {a:Ek} (o:gU a env) {d:Nat} {k:Kn} (y:d<env.length) (hb:∀x,k= .b x->v= .bool x) (z:k= .sk->v=undef):gU ((d,v,k)::a) (env.set d v):=by
 intro t u j e;unfold Ek.lk at e;split at e;grind[Nat.eq_of_beq_eq_true];obtain⟨h1,m⟩:=o t u j e;refine⟨?_,m⟩;rw[List.getElem?_set_ne fun r=>FY];exact h1
theorem gU.aRm {a:Ek} (m:gU a env) {d:Nat} {k k':Kn} (o:a.lk d=some (v,k)) (r:v= .bool b):gU ((d,.bool b,.b b)::a) env:=by
 intro t u j h;unfold Ek.lk at h;split at h;rename_i e;have:=pw e;subst this;cases h;exact⟨by rw[<-r];exact(m _ _ _ o).1,fun x y=>ES,ES⟩;exact m t u j h
def Xc (n:Nat) (a:Ek) (d:Option Tmp) (v:Value) (k:Kn) (q:Ek->Prop):Prop:=match d with
 |none=>q a
 |some d=>(match Nat.blt d n with
  |true=>q ((d,v,k)::a)
  |false=>hF)
theorem vK {a:Ek} (r:gU a env) (m:env.length=n) {d:Option Tmp} {k:Kn} {q:Ek->Prop} (hb:∀x,k= .b x->v= .bool x) (t:k= .sk->v=undef) (e:Xc n a d v k q):
  ∃o,gU o (pD env d v)/\(pD env d v).length=n/\q o:=by
 unfold Xc at e
 split at e
 .exact⟨a,r,m,e⟩
 .split at e
  .rename_i j;exact⟨_,r.cons (m.symm▸(l7 j)) hb t,by simp[pD,m],e⟩
  .cases e
def wG (Fq:Nat->Option Tmp) (a:Ek) (g:Option (Nat×Bool)) (p s:Ek->Prop):Prop:=match g with
 |none=>p a
 |some (j,gM)=>match Fq j with
  |none=>hF
  |some d=>match a.lk d with
   |some (_,.b x)=>(match x,gM with
    |true,true=>p a
    |false,false=>p a
    |_,_=>s a)
   |some (_,.sk)=>s a
   |some (v,_)=>(match gM with
    |true=>Br v (p ((d,.bool true,.b true)::a)) (s ((d,.bool false,.b false)::a))
    |false=>Br v (s ((d,.bool true,.b true)::a))<|p ((d,.bool false,.b false)::a))
   |none=>hF
theorem aSb {all:Array Oper} {a:Ek} (r:gU a env) {o:Oper} {p s:Ek->Prop} (e:wG (fun j=>(all[j]?).bind (·.dst)) a o.guard p s):
  ∃u,gU u env/\((eY all env o=some true/\p u)\/(eY all env o=some false/\s u)):=by
 unfold wG at e
 unfold eY
 split at e
 .grind
 .rename_i j gM D;rw[D];simp only;split at e
  .cases e
  .rename_i d m;replace m:(all[j]?).bind _=some d:=m;rw[m];simp only[AT];split at e
   .rename_i x t;obtain⟨h1,z,_⟩:=r _ _ _ t;split at e
    .grind
    .grind
    .refine⟨a,r,.inr ⟨?_,e⟩⟩;cases x<;>cases gM<;>grind
   .rename_i t;obtain⟨h1,_,z⟩:=r _ _ _ t;have:=z rfl;subst this;rw[h1];exact⟨a,r,.inr ⟨rfl,e⟩⟩
   .rename_i v k _ _ t;have h1:=(r _ _ _ t).1;split at e
    .obtain⟨b,y,F,A⟩:=e;refine⟨_,r.aRm (k':= .un) t y,?_⟩;cases b with
     |true=>grind
     |false=>grind
    .obtain⟨b,y,F,A⟩:=e;refine⟨_,r.aRm (k':= .un) t y,?_⟩;cases b with
     |true=>grind
     |false=>grind
   .cases e
def vz (a:Ek) (op:Op):Option Operand:=match op with
 |.pick (.tmp c) x y=>(match a.lk c with
  |some (_,.b true)=>some x
  |some (_,.b false)=>some y
  |_=>none)
 |.move x=>some x
 |.assign x=>some x
 |_=>none
def vm {a:Ek} (m:gU a env) (h:vz a op=some x):eM op= .Cr/\∀e,dA P (eC P env) e op=some (eC P env x):=by
 unfold vz at h;split at h;split at h;rename_i j;cases h;obtain⟨h1,d,_⟩:=m _ _ _ j;exact⟨rfl,fun e=>by simp[dA,eC,ay,h1,d true rfl]⟩;rename_i j;cases h;obtain⟨h1,d,_⟩:=m _ _ _ j;exact⟨rfl,fun e=>by simp[dA,eC,ay,h1,d false rfl]⟩;cases h;cases h;exact⟨rfl,fun _=>rfl⟩;cases h;exact⟨rfl,fun _=>rfl⟩;cases h
def knW (a:Ek) (x:Operand):Kn:=match x with
 |.const (.bool y)=> .b y
 |.tmp t=>(match a.lk t with
  |some (_,.b y)=> .b y
  |_=> .un)
 |_=> .un
theorem aBs {a:Ek} (d:gU a env):(∀y,knW a x= .b y->eC P env x= .bool y)/\knW a x≠.sk:=by
 unfold knW;split;grind[eC,gR];split;rename_i e;obtain⟨h1,j,_⟩:=d _ _ _ e;grind[eC];grind;grind
def aG1 (M:Nat) (op:Op) (d:Option Tmp) (q:Kn->Prop):Prop:=match op,d with
 |.assign _,_=>hP (q .un)
 |_,some d=>(match Nat.beq (Nat.land (Nat.shiftRight M d) 1) 1 with
  |true=>q .un
  |false=>q .ex)
 |_,none=>q .un
theorem ln {d:Option Tmp} {q:Kn->Prop} (h:aG1 M op d q):q .un\/q .ex:=by
 unfold aG1 at h;split at h;exact .inl h;grind;grind
def wKn (M:Nat) (op:Op) (d:Option Tmp) (a:Ek) (x:Operand) (q:Kn->Prop):Prop:=match knW a x with
 |.b y=>q (.b y)
 |_=>aG1 M op d q
theorem aN7 {d:Option Tmp} {a:Ek} {q:Kn->Prop} (h:wKn M op d a x q):(∃y,knW a x= .b y/\q (.b y))\/q .un\/q .ex:=by
 grind[wKn,ln]
def ups:Op->List Operand
 |.move x|.assign x|.load _ x|.nilCheck x|.unOp _ _ x|.convert _ _ x|.fieldAddr _ x _|.field _ x _|.box _ x=>[x]
 |.store _ x y|.binOp _ _ x y _|.indexAddr _ x y|.index _ x y=>[x,y]
 |.slice _ x e d j=>x::(e.toList++(d.toList++j.toList))
 |.call c=>c.args.toList
 |_=>[]
def rmK (t:Nat):Ek->(Ek->Prop)->Prop
 |[],q=>hP (q [])
 |(d,v,k)::a,q=>(match Nat.beq d t with
  |true=>(match k with
   |.ex=>q ((d,undef,.no)::a)
   |k=>q ((d,v,k)::a))
  |false=>rmK t a fun a=>q ((d,v,k)::a))
theorem aMt {t:Nat}:∀{a:Ek} {q:Ek->Prop},rmK t a q->∃d,(∀x r,Ek.lk d x=some r->a.lk x=some r)/\q d
 |[],_,h=>⟨_,fun _ _ h=>h,h⟩
 |(m,v,k)::a,q,h=>by
  unfold rmK at h;split at h;grind[Ek.lk];obtain⟨a1,h1,e⟩:=aMt h;refine⟨_,fun x r j=>?_,e⟩;unfold Ek.lk at j ⊢;grind
def aB5:List Operand->Ek->(Ek->Prop)->Prop
 |[],a,q=>hP (q a)
 |x::l,a,q=>(match x with
  |.tmp t=>rmK t a fun a=>aB5 l a q
  |_=>aB5 l a q)
def U5 {env:EK}:∀{l:List Operand} {a:Ek} {q:Ek->Prop},gU a env->aB5 l a q->∃e,gU e env/\q e
 |[],a,_,d,h=>⟨a,d,h⟩
 |x::l,a,q,d,h=>by
  unfold aB5 at h;split at h;obtain⟨a1,h1,j⟩:=aMt h;exact U5 (fun t v k m=>d t v k<|h1 _ _ m) j;exact U5 (l:=l) d h
def wOp (P:Program) (K:FuncId->EK->HQ) (a:Ek) (h:AH) (q:Value->AH->Prop) (op:Op):Prop:=match eM op with
 |.Cr=>wL P a h (fun v=>q v h) op
 |.alloc=>wA P a (F4 h) (yQ h) q op
 |.store=>wH P K a h q op
 |.call=>wH P K a h q op
 |.Et=>hF
def aMk {a:Ek} (j:gU a env) {h:AH} (d:wOp P K a h q op):∃n v m,oV P (run P K n) env h op=some (v,m)/\q v m:=by
 refine mf ?_;unfold wOp at d;unfold aQn;split at d<;>(rename_i r;simp only[r]);exact aTc j d;exact aRs j (fun W e l n c k o=>o) d;exact aO4 j d;exact aO4 j d;exact d
def aOi (P:Program) (K:FuncId->EK->HQ) (M n:Nat) (Fq:Nat->Option Tmp) (o:Oper) (d:Ek->AH->(Ek->AH->Prop)->Prop) (a:Ek) (h:AH) (q:Ek->AH->Prop):Prop:=match o with
 |⟨dst,op,_,_,_,guard⟩=>wG Fq a guard
  (fun a=>aB5 (ups op) a fun e=>(match vz a op with
   |some x=>wKn M op dst a x fun k=>Cs P a x fun v=>Xc n e dst v k fun a=>d a h q
   |none=>aG1 M op dst fun k=>wOp P K a h (fun v j=>Xc n e dst v k fun a=>d a j q) op))
  (fun a=>Xc n a dst undef .sk fun a=>d a h q)
def aJc (P:Program) (K:FuncId->EK->HQ) (M n:Nat) (Fq:Nat->Option Tmp) (os:List Oper):Ek->AH->(Ek->AH->Prop)->Prop:=
 List.rec (fun a h q=>q a h) (fun o _ d=>aOi P K M n Fq o d) os
theorem aTt {a j:Ek} {q:Ek->Prop} (e:gU a env) (d:gU j env) (o:env.length=n) (hb:wKn M op dst a x fun k=>Cs P a x fun v=>Xc n j dst v k q):
  ∃m,gU m (pD env dst<|eC P env x)/\(pD env dst<|eC P env x).length=n/\q m:=by
 obtain⟨t,_⟩:=aBs (P:=P) (x:=x) e
 rcases aN7 hb with⟨y,r,hb⟩|hb|hb
 .grind[vK,iX]
 .exact vK d o ES ES (iX e hb)
 .exact vK d o ES ES (iX e hb)
theorem ij {M n:Nat} {all:Array Oper}:∀{os:List Oper} {a:Ek} {env:EK} {h:AH} {q:Ek->AH->Prop},gU a env->env.length=n->aJc P K M n (fun j=>(all[j]?).bind (·.dst)) os a h q->
  ∃m o A u,run P K m (.ops all os env) h=some (o,A)/\gU u o.env/\o.env.length=n/\q u A
 |[],a,env,h,q,O,D,N=>⟨1,_,h,a,rfl,O,D,N⟩
 |o::os,a,env,h,q,O,D,N=>by
  change aOi P K M n _ o (aJc P K M n _ os) a h q at N;unfold aOi at N;obtain⟨a1,d,hb⟩:=aSb O N;rcases hb with⟨e,hb⟩|⟨e,hb⟩;obtain⟨u,y,hb⟩:=U5 d hb;obtain⟨n1,v,h1,r,W,Q,T,z⟩:∃n1 v h1 r,oV P (run P K n1) env h o.op=some (v,h1)/\gU r (pD env o.dst v)/\(pD env o.dst v).length=n/\aJc P K M n _ os r h1 q:=by
   split at hb;rename_i x Y;obtain⟨hk,hl⟩:=vm (P:=P) d Y;obtain⟨r,F,I,J⟩:=aTt d y D hb;exact⟨0,_,h,r,by grind[oV],F,I,J⟩;rcases ln hb with hb|hb;obtain⟨n1,v,h1,W,U⟩:=aMk d hb;obtain⟨r,F,I,J⟩:=vK y D ES ES U;grind;obtain⟨n1,v,h1,W,U⟩:=aMk d hb;obtain⟨r,F,I,J⟩:=vK y D ES ES U;grind
  obtain⟨n2,out,A,u,X,V⟩:=ij Q T z;refine⟨max n1 n2+1,out,A,u,?_,V⟩;show vN P _ all _ env h=_;simp only[vN,e];rw[show(fun t h=>run P K _ t h)=run P K _ from rfl,T3 (nP ER) W];exact nP ER _ _ _ X;obtain⟨r,F,I,J⟩:=vK d D ES (fun _=>rfl) hb;obtain⟨n2,out,A,u,X,V⟩:=ij F I J;refine⟨n2+1,out,A,u,?_,V⟩;show vN P _ all _ env h=_;grind[vN]
def wLV (P:Program) (a:Ek) (h:AH) (q:Value->Prop):Op->Prop
 |.call c=>(match c.callee with
  |.builtin b=>(match qW b with
   |true=>bu P a c.args.toList fun l=>wBI P h (fun v _=>q v) c.argTypes b l
   |false=>hF)
  |_=>hF)
 |op=>wL P a h q op
theorem aN2 {a:Ek} (j:gU a env) {h:AH} {q:Value->Prop} (d:wLV P a h q op):kO op=true/\∃v,fT P (eC P env) h op=some v/\q v:=by
 unfold wLV at d;split at d;split at d;split at d;obtain⟨v,m,h1,e⟩:=Cm<|aMy<|Gy j d;simp_all[kO,fT,e9];cases d;cases d;obtain⟨o,v,h1,e⟩:=Gd<|aTc j d;refine⟨?_,v,?_,e⟩;grind[kO,eM];cases op<;>first|exact h1|grind
structure WR where
 a:Ek
 h:AH
 v:Value
 ran:Bool
abbrev HV:=List WR
def wDO (P:Program) (K:FuncId->EK->HQ) (i r:Nat) (a:Ek) (h:AH) (q:Value->AH->Prop) (op:Op):Prop:=
 match kO op with
 |true=>wLV P a h (fun v=>q v h) op
 |false=>(match eM op with
  |.alloc=>(match i with
   |0=>wA P a (pC h r) (nJ h r) q op
   |i=>wA P a (pC h<|r+i) (nJ h<|r+i) q op)
  |_=>wH P K a h q op)
theorem aMm {r:Nat} {a:Ek} (y:gU a env) {h:AH} {o:Oper} (d:eY ⟨all⟩ env o=some true) (t:wDO P K i r a h q o.op):
  ∃n v m,gX P (run P K n) all r i env h o=some (v,m)/\q v m:=by
 unfold wDO at t
 unfold gX
 simp only[d]
 split at t
 .obtain⟨_,v,h1,u⟩:=aN2 y t;exact⟨0,v,h,ES,u⟩
 .split at t
  .have D:∀{j:Nat},wA P a (pC h j) (nJ h j) q o.op->j=r+i->∃n v m,gX P (run P K n) all r i env h o=some (v,m)/\q v m:=by
    intro j A e;subst e;obtain⟨_,b,f,h1,u⟩:=F6<|aRs y (fun W e l n c k z=>z) A;exact⟨0,_,_,by grind[gX],u⟩
   grind[gX]
  .obtain⟨F,n,v,m,h1,u⟩:=zX (fun g=>rfl)<|aO4 y t;grind
def Zz:List (Nat×Nat)->Nat->Bool
 |[],_=>false
 |(a,_)::l,i=>(match Nat.beq a i with
  |true=>true
  |false=>Zz l i)
def wMd (d:List (Nat×Nat)) (i:Nat) (a:Ek) (rs:HV) (k:(AH->Value->Bool->(HV->Prop)->Prop)->Prop):Prop:=match d with
 |[]=>hP (k fun _ _ _ q=>q rs)
 |d=>(match Zz d i with
  |true=>k fun h v r q=>q (⟨a,h,v,r⟩::rs)
  |false=>k fun h _ _ q=>q (⟨[],h,undef,true⟩::rs))
def Rl (d:List (Nat×Nat)):HV->HV->Prop
 |[],[]=>True
 |x::e,y::gs=>(x=y\/Zz d gs.length=false/\x.h=y.h)/\Rl d e gs
 |_,_=>False
theorem aMq {a:Ek} {rs gs:HV} {k:(AH->Value->Bool->(HV->Prop)->Prop)->Prop} (u:gs.length=i) (t:j≠[]->Rl j rs gs) (d:wMd j i a rs k):
  ∃R,k R/\∀h v r q,R h v r q->∃m,(j≠[]->Rl j m (⟨a,h,v,r⟩::gs))/\q m:=by
 unfold wMd at d
 split at d
 .exact⟨_,d,ES⟩
 .split at d
  .exact⟨_,d,fun h v r q o=>⟨⟨a,h,v,r⟩::rs,fun e=>⟨.inl rfl,t e⟩,o⟩⟩
  .exact⟨_,d,fun h v r q o=>⟨⟨[],h,_,true⟩::rs,fun e=>⟨.inr ⟨ES,rfl⟩,t e⟩,o⟩⟩
theorem aC1 {d:List (Nat×Nat)}:∀{rs gs:HV},Rl d rs gs->rs.length=gs.length/\∀(j:Nat) (x y:WR),rs.reverse[j]?=some x->gs.reverse[j]?=some y->x=y\/Zz d j=false/\x.h=y.h
 |[],[],_=>ES
 |x::rs,y::gs,h=>by
  obtain⟨h1,e⟩:=h;obtain⟨m,o⟩:=aC1 e;grind
def wDF (P:Program) (K:FuncId->EK->HQ) (M n:Nat) (Fq:Nat->Option Tmp) (r:Nat) (m:List (Nat×Nat)) (o:Oper) (e:Nat->Ek->AH->HV->(HV->Ek->AH->Prop)->Prop) (i:Nat) (a:Ek) (h:AH) (rs:HV) (q:HV->Ek->AH->Prop):Prop:=match o with
 |⟨dst,op,_,_,_,guard⟩=>nK (i+1) fun j=>wG Fq a guard
  (fun a=>wMd m i a rs fun R=>aB5 (ups op) a fun d=>(match vz a op with
   |some x=>wKn M op dst a x fun k=>Cs P a x fun v=>Xc n d dst v k fun d=>R h v true fun rs=>e j d h rs q
   |none=>aG1 M op dst fun k=>wDO P K i r a h (fun v t=>Xc n d dst v k fun d=>R h v true fun rs=>e j d t rs q) op))
  (fun a=>wMd m i a rs fun R=>Xc n a dst undef .sk fun d=>R h undef false fun rs=>e j d h rs q)
def wDT (P:Program) (K:FuncId->EK->HQ) (M n:Nat) (Fq:Nat->Option Tmp) (r:Nat) (d:List (Nat×Nat)) (os:List Oper):Nat->Ek->AH->HV->(HV->Ek->AH->Prop)->Prop:=
 List.rec (fun _ a h j q=>q j a h) (fun o _ e=>wDF P K M n Fq r d o e) os
def WOk (all:List Oper) (rs:HV) (es:HY):Prop:=rs.length=es.length/\∀(i:Nat) (o:Oper) (x:WR) (e:EK),all[i]?=some o->rs[i]?=some x->es[i]?=some e->gU x.a e/\eY ⟨all⟩ e o=some x.ran
theorem WOk.aI3 {rs:HV} (m:WOk all rs es) {o:Oper} {x:WR} {e:EK} (v:all[rs.length]?=some o) (h1:gU x.a e) (A:eY ⟨all⟩ e o=some x.ran):WOk all (rs++[x]) (es++[e]):=by
 refine⟨by simp[m.1],fun i y z u d t r=>?_⟩;rcases Nat.lt_trichotomy i rs.length with j|j|j;rw[p4 j] at t;rw[p4<|m.1▸j] at r;exact m.2 i y z u d t r;subst j;rw[v] at d;cases d;rw[m.1] at r;grind;grind
theorem ry {M n:Nat} {all:List Oper} {r:Nat} {N:List (Nat×Nat)}:∀{os:List Oper} {i:Nat} {a:Ek} {env:EK} {h:AH} {rs gs:HV} {es:HY} {q:HV->Ek->AH->Prop},gU a env->env.length=n->gs.length=i->(∀j,all[i+j]?=os[j]?)->WOk all gs.reverse es->(N≠[]->Rl N rs gs)->
  wDT P K M n (fun j=>((⟨all⟩:Array Oper)[j]?).bind (·.dst)) r N os i a h rs q->
  ∃m F I e h' a',jV P (run P K m) all r i os env h=some (List.zipWith (fun x e=>⟨e,x.h,x.v⟩) F I,e,h')/\F.length=I.length/\WOk all (gs.reverse++F) (es++I)/\gU a' e/\e.length=n/\∃u,(N≠[]->Rl N u (F.reverse++gs))/\q u a' h'
 |[],i,a,env,h,rs,gs,es,q,ha,W,_,_,ζ,hg,Y=>⟨0,[],[],env,h,a,rfl,rfl,ES,ha,W,rs,ES,Y⟩
 |o::os,i,a,env,h,rs,gs,es,q,ha,W,D,V,ζ,hg,Y=>by
  have Y:wDF P K M n _ r N o (wDT P K M n _ r N os) i a h rs q:=Y;unfold wDF at Y;have Y:=aGp Y;obtain⟨a1,t,hb⟩:=aSb ha Y;have ho:all[gs.reverse.length]?=some o:=by have:=V 0;rw[List.length_reverse,D];simpa using this
  have U:∀j,all[i+1+j]?=os[j]?:=fun j=>by
   have:=V<|j+1;grind
  rcases hb with⟨d,hb⟩|⟨d,hb⟩;obtain⟨R,hb,hR⟩:=aMq D hg hb;obtain⟨n1,v,h1,A,hs,θ,ι,u,γ,η⟩:∃n1 v h1 A,gX P _ all r i env h o=some (v,h1)/\gU A _/\(pD env o.dst v).length=n/\
    ∃u,(N≠[]->Rl N u _)/\wDT P K M n _ r N os _ A h1 u q:=by
   obtain⟨a',T,hb⟩:=U5 t hb
   split at hb
   .rename_i x hx;obtain⟨hk,hl⟩:=vm (P:=P) t hx;have κ:kO o.op=true:=by
     cases hop:o.op<;>rw[hop] at hk<;>first|grind[kO,eM]|grind[eM]
    have μ:fT P (eC P env) h o.op=some (eC P env x):=by
     have:=hl h;cases hop:o.op<;>rw[hop] at hk this<;>first|exact this|grind[eM]
    have vC:∀{A:Ek} {v:Value},v=eC P env x->gU A (pD env o.dst<|eC P env x)->(pD env o.dst<|eC P env x).length=n->R h v true (fun rs=>wDT P K M n (fun j=>((⟨all⟩:Array Oper)[j]?).bind (·.dst)) r N os (i+1) A h rs q)->
      ∃n1 v h1 A,gX P (run P K n1) all r i env h o=some (v,h1)/\gU A (pD env o.dst v)/\(pD env o.dst v).length=n/\∃u,(N≠[]->Rl N u (⟨a1,h,v,true⟩::gs))/\wDT P K M n (fun j=>((⟨all⟩:Array Oper)[j]?).bind (·.dst)) r N os (i+1) A h1 u q:=by
     intro A v e O Q J
     subst e
     exact⟨0,_,h,A,by grind[gX],O,Q,hR _ _ _ _ J⟩
    obtain⟨k1,_⟩:=aBs (P:=P) (x:=x) t
    rcases aN7 hb with⟨y,hy,hb⟩|hb|hb
    .have hb:=iX t hb;obtain⟨A,O,Q,J⟩:=vK T W (fun z e=>ES) ES hb;exact vC rfl O Q J
    .obtain⟨A,O,Q,J⟩:=vK T W ES ES<|iX t hb;exact vC rfl O Q J
    .obtain⟨A,O,Q,J⟩:=vK T W ES ES<|iX t hb;exact vC rfl O Q J
   .rcases ln hb with hb|hb
    .obtain⟨n1,v,h1,hs,hp⟩:=aMm t d hb;obtain⟨A,O,Q,J⟩:=vK T W ES ES hp;exact⟨n1,v,h1,A,hs,O,Q,hR _ _ _ _ J⟩
    .obtain⟨n1,v,h1,hs,hp⟩:=aMm t d hb;obtain⟨A,O,Q,J⟩:=vK T W ES ES hp;exact⟨n1,v,h1,A,hs,O,Q,hR _ _ _ _ J⟩
  obtain⟨n2,F,I,e,h',a',hr,δ,X,β,ε,hq⟩:=ry θ ι (by simp[D]) U (by rw[DR];exact ζ.aI3 ho t d) γ η;refine⟨max n1 n2,⟨a1,h,v,true⟩::F,env::I,e,h',a',?_,by simp[δ],ES,β,ε,ES⟩;simp only[jV,L0 (nP<|Nat.le_max_left n1 n2) hs,D4 (nP<|Nat.le_max_right n1 n2) _ hr];rfl;obtain⟨R,hb,hR⟩:=aMq D hg hb;obtain⟨A,O,Q,J⟩:=vK t W ES (fun _=>rfl) hb;obtain⟨u,γ,J⟩:=hR _ _ _ _ J;obtain⟨n2,F,I,e,h',a',hr,δ,X,β,ε,hq⟩:=ry O Q (by simp[D]) U (by rw[DR];exact ζ.aI3 ho t d) γ J;refine⟨n2,⟨a1,h,_,_⟩::F,env::I,e,h',a',?_,by simp[δ],by simpa using X,β,ε,ES⟩;have hs:gX P (run P K n2) all r i env h o=some (undef,h):=by simp only[gX,d]
  simp_all[jV]
def xg (P:Program) (all:List Oper) (rs:HV) (hEnd:AH) (x:Nat×Nat) (d:Prop->Prop) (p:Prop):Prop:=match x with
 |(i,s)=>(match all[i]?,rs[i]? with
  |some o,some ⟨a,_,v,true⟩=>(match rs[s]? with
   |some ⟨_,h,_,_⟩=>wLV P a h (fun x=>rZ x v=true) o.op/\d p
   |none=>wLV P a hEnd (fun x=>rZ x v=true) o.op/\d p)
  |some _,some ⟨_,_,_,false⟩=>d p
  |_,_=>hF)
def wFl (P:Program) (all:List Oper) (rs:HV) (hEnd:AH) (fs:List (Nat×Nat)):Prop->Prop:=List.rec (fun p=>p) (fun x _ d=>xg P all rs hEnd x d) fs
theorem aCc {all:List Oper} {rs:HV} {es:HY} {hEnd:AH} (d:WOk all rs es) {p:Prop}:∀{fs:List (Nat×Nat)},wFl P all rs hEnd fs p->(fs.all (wJ P all (List.zipWith (fun x e=>⟨e,x.h,x.v⟩) rs es) hEnd)=true)/\p
 |[],m=>⟨rfl,m⟩
 |(i,s)::fs,m=>by
  change xg P all rs hEnd (i,s) (wFl P all rs hEnd fs) p at m;unfold xg at m;simp only at m;have N:∀{j:Nat} {x:WR},rs[j]?=some x->∃e,es[j]?=some e/\(List.zipWith (fun x e=>(⟨e,x.h,x.v⟩:Rec)) rs es)[j]?=some ⟨e,x.h,x.v⟩:=by
   intro j x t;have U:j<es.length:=by rw[<-d.1];exact ES
   exact⟨es[j],by simp[U],ES⟩
  split at m;rename_i o a h v A t;obtain⟨e,z,D⟩:=N t;obtain⟨J,r⟩:=d.2 i o _ e A t z;have vC:∀{y:AH},(match(List.zipWith (fun x e=>(⟨e,x.h,x.v⟩:Rec)) rs es)[s]? with|some q=>q.h|none=>hEnd)=y->wLV P a y (fun x=>rZ x v=true) o.op/\wFl P all rs hEnd fs p->(((i,s)::fs).all (wJ P all (List.zipWith (fun x e=>⟨e,x.h,x.v⟩) rs es) hEnd)=true)/\p:=by
   intro y T ⟨O,Q⟩;obtain⟨F,I⟩:=aCc d Q;refine⟨?_,I⟩;obtain⟨_,u,V,W⟩:=aN2 J O;rw[BQ,F,CV];cases hc:(List.zipWith _ rs es)[s]?<;>(rw[hc] at T;grind[wJ])
  grind;rename_i o a h v A t;obtain⟨e,z,D⟩:=N t;obtain⟨J,r⟩:=d.2 i o _ e A t z;obtain⟨F,I⟩:=aCc d m;simp_all[BQ,CV,wJ];cases m
def feq:List (Nat×Nat)->List (Nat×Nat)->Bool
 |[],[]=>true
 |(a,b)::l,(c,d)::m=>Nat.beq a c&&(Nat.beq b d&&feq l m)
 |_,_=>false
def aMg:∀{l m:List (Nat×Nat)},feq l m=true->l=m
 |[],[],_=>rfl
 |(a,b)::l,(c,d)::m,h=>by
  simp only[feq,dn] at h;rw[pw h.1,pw h.2.1,aMg h.2.2]
 |[],_::_,h=>EY
 |_::_,[],h=>EY
def aN5 (P:Program) (ops:Array Oper) (d:List (Nat×Nat)):Bool:=Ol ops.toList&&(P.follows .mixedOrders|| !Region.departs ops)&&feq (K2 ops.toList) d
def aKg:List (Nat×List (Nat×Nat))->Nat->(List (Nat×Nat)->Prop)->Prop
 |[],_,q=>hP (q [])
 |(i,l)::F,id,q=>(match Nat.beq i id with
  |true=>q l
  |false=>aKg F id q)
def aCb:∀{F:List (Nat×List (Nat×Nat))} {id:Nat} {q:List (Nat×Nat)->Prop},aKg F id q->∃l,q l
 |[],_,_,h=>⟨_,h⟩
 |_::F,_,_,h=>by
  unfold aKg at h;split at h;exact⟨_,h⟩;exact aCb (F:=F) h
theorem Tf {all:List Oper} {rs gs:HV} {hEnd:AH} {p:Prop} {e:List (Nat×Nat)} (t:rs.length=gs.length) (o:∀(j:Nat) (x y:WR),rs[j]?=some x->gs[j]?=some y->x=y\/Zz e j=false/\x.h=y.h):
  ∀{fs:List (Nat×Nat)},(∀x∈fs,Zz e x.1=true)->wFl P all rs hEnd fs p->wFl P all gs hEnd fs p
 |[],_,d=>d
 |(i,s)::fs,m,d=>by
  change xg P all rs hEnd (i,s) (wFl P all rs hEnd fs) p at d;show xg P all gs hEnd (i,s) (wFl P all gs hEnd fs) p;have A:=Tf (hEnd:=hEnd) (all:=all) (p:=p) t o fun x v=>m x<|eK _ v;have z:rs[i]?=gs[i]?:=by
   have h1:=m (i,s) ES;rcases ts i rs.length with u|r;grind;grind
  unfold xg at d ⊢;grind
theorem aCv:∀{d:List (Nat×Nat)} {x:Nat×Nat},x∈d->Zz d x.1=true
 |(a,b)::l,x,h=>by
  unfold Zz;split;rfl;rcases j2.1 h with rfl|h;simp_all;exact aCv h
def rvK (q:HV->Prop):HV->HV->Prop
 |[],acc=>hP (q acc)
 |x::l,acc=>rvK q l (x::acc)
theorem aN3 {q:HV->Prop}:∀{l acc:HV},rvK q l acc->q (l.reverse++acc)
 |[],_,h=>h
 |x::l,acc,h=>by have:=aN3 (l:=l) h;grind
def aMl (P:Program) (K:FuncId->EK->HQ) (M n:Nat) (F:List (Nat×List (Nat×Nat))) (id:Nat) (ops:Array Oper) (a:Ek) (h:AH) (q:Ek->AH->Prop):Prop:=
 aKg F id fun d=>nK ops.size fun m=>Uh (aN5 P ops d) h m fun r h1=>(match d with
  |[]=>wDT P K M n (fun j=>(ops[j]?).bind (·.dst)) r [] ops.toList 0 a h1 [] fun _ o e=>q o e
  |d=>wDT P K M n (fun j=>(ops[j]?).bind (·.dst)) r d ops.toList 0 a h1 [] fun t o e=>rvK (fun t=>wFl P ops.toList t e d<|q o e) t [])
theorem aJv {a:Ek} (U:gU a env) (V:env.length=n) {h:AH} {q:Ek->AH->Prop} (z:aMl P K M n F id ops a h q):∃m e o r,uH P (run P K m) ops env h=some (e,o)/\gU r e/\e.length=n/\q r o:=by
 obtain⟨Y,z⟩:=aCb z;obtain⟨hc,z⟩:=aGp z;unfold aN5 at hc;rw[dn] at hc;have D:=aMg hc.2;subst D;obtain⟨m,d,j,e,o,r,J,I,v,t,u,y⟩:∃m d j e o r,jV P _ ops.toList h.next 0 ops.toList env _=some (List.zipWith _ d j,e,o)/\d.length=j.length/\WOk ops.toList d j/\gU r e/\e.length=n/\wFl P ops.toList d o (K2 ops.toList) _:=by
  have Q:WOk ops.toList ([]:HV).reverse []:=⟨rfl,ES⟩;split at z;rename_i A;obtain⟨m,d,j,e,o,r,J,I,v,t,u,O,_,y⟩:=ry (i:=0) U V rfl ES Q ES z;exact⟨m,d,j,e,o,r,J,I,ES,t,u,by rw[A];exact y⟩;rename_i A;obtain⟨m,d,j,e,o,r,J,I,v,t,u,O,N,y⟩:=ry (i:=0) (rs:=[]) U V rfl ES Q (fun _=>trivial) z;obtain⟨h2,W⟩:=aC1<|N fun e=>A e;have T:=aN3 y;rw[hX] at T;have h5:=Tf ES W (fun x X=>aCv X) T;grind
 obtain⟨hf,y⟩:=aCc v y;refine⟨m,e,o,r,?_,t,u,y⟩;simp_all[uH,aXg]
inductive It where
 |code (p:EM) (c:Code)|inBlock (id:Nat)|inLoop (p:EM) (b:Code)|inScope (b:Code)|beginRound
abbrev HU:=List It
def It.it:It->Item
 |.code _ c=> .code c
 |.inBlock id=> .inBlock id
 |.inLoop _ b=> .inLoop b
 |.inScope b=> .inScope b
 |.beginRound=> .beginRound
abbrev Kv (k:HU):List Item:=k.map It.it
def rP (b:Nat) (p:EM) (x:Code×HU):Code×HU:=match x.1,b with
 |.seq c d,0=>(c,.code (1::p) d::x.2)
 |.seq _ d,1=>(d,x.2)
 |.cond _ t _,0=>(t,x.2)
 |.cond _ _ e,1=>(e,x.2)
 |.block id c,0=>(c,.inBlock id::x.2)
 |.loop c,0=>(c,.inLoop (0::p) c::x.2)
 |.scope c,0=>(c,.inScope c::x.2)
 |.rangeFunc _ _ a c,0=>(a,[.beginRound,.code (1::p) c])
 |.rangeFunc _ _ _ c,1=>(c,[])
 |_,_=>(.skip,[])
def Mu (P:Program) (f:FuncId):EM->Code×HU
 |[]=>((O1 P f).getD .skip,[])
 |b::p=>rP b p<|Mu P f p
def mT (P:Program) (f:FuncId):HU->Prop
 |[]=>True
 |.code p c::k=>Mu P f p=(c,k)/\mT P f k
 |.inLoop p b::k=>Mu P f p=(b,.inLoop p b::k)/\mT P f k
 |_::k=>mT P f k
def yW (id:Nat):HU->Option (HU)
 |[]=>none
 |.inBlock i::k=>(match Nat.beq i id with
  |true=>some k
  |false=>yW id k)
 |_::k=>yW id k
theorem zE {f:FuncId} {id:Nat}:∀{k k':HU},yW id k=some k'->exitTo id (Kv k)=some (Kv k')/\(mT P f k->mT P f k')
 |[],_,h=>EY
 |x::k,k',h=>by
  cases x with
  |inBlock i=>
   unfold yW at h;split at h;rename_i e;cases h;have:=pw e;subst this;exact⟨by simp[Kv,It.it,exitTo],fun g=>g⟩;rename_i e;obtain⟨h1,d⟩:=zE (f:=f) h;refine⟨?_,fun g=>d g⟩;have:(i==id)=false:=by simpa using Nat.ne_of_beq_eq_false e
   simp_all[Kv,It.it,exitTo]
  |code p c=>obtain⟨h1,d⟩:=zE (f:=f) (k:=k) h;exact⟨h1,fun g=>d g.2⟩
  |inLoop p c=>obtain⟨h1,d⟩:=zE (f:=f) (k:=k) h;exact⟨h1,fun g=>d g.2⟩
  |inScope c=>obtain⟨h1,d⟩:=zE (f:=f) (k:=k) h;exact⟨h1,fun g=>d g⟩
  |beginRound=>obtain⟨h1,d⟩:=zE (f:=f) (k:=k) h;exact⟨h1,fun g=>d g⟩
theorem zH {id:Nat}:∀{k:HU},yW id k=none->exitTo id (Kv k)=none
 |[],_=>rfl
 |x::k,h=>by
  cases x with
  |inBlock i=>
   unfold yW at h;split at h;cases h;rename_i e;simpa [Kv,It.it,exitTo,(by simpa using Nat.ne_of_beq_eq_false e)] using zH h
  |code p c=>exact zH (k:=k) h
  |inLoop p c=>exact zH (k:=k) h
  |inScope c=>exact zH (k:=k) h
  |beginRound=>exact zH (k:=k) h
def qQ:Nat->HU->HU
 |0,k=>k
 |n+1,k=>match k with
  |.code p c::d=>(match c with
   |.skip=>qQ n d
   |.label _=>qQ n d
   |.seq a b=>qQ n (.code (0::p) a:: .code (1::p) b::d)
   |.block id b=>qQ n (.code (0::p) b:: .inBlock id::d)
   |.scope b=>qQ n (.code (0::p) b:: .inScope b::d)
   |.loop b=>qQ n (.code (0::p) b:: .inLoop (0::p) b::d)
   |.exit id=>(match yW id d with
    |some e=>qQ n e
    |none=>k)
   |_=>k)
  |.inBlock _::d=>qQ n d
  |.inScope _::d=>qQ n d
  |.inLoop p b::d=>qQ n (.code p b:: .inLoop p b::d)
  |_=>k
section
variable {k:HU} {a b c:Code}
theorem mT.seq (g:mT P f (.code p (.seq a b)::k)):mT P f (.code (0::p) a:: .code (1::p) b::k):=by
 obtain⟨h1,d⟩:=g;exact⟨FR,FR,d⟩
theorem mT.block (g:mT P f (.code p (.block id b)::k)):mT P f (.code (0::p) b:: .inBlock id::k):=by
 obtain⟨h1,d⟩:=g;exact⟨FR,d⟩
theorem mT.scope (g:mT P f (.code p (.scope b)::k)):mT P f (.code (0::p) b:: .inScope b::k):=by
 obtain⟨h1,d⟩:=g;exact⟨FR,d⟩
theorem mT.loop (g:mT P f (.code p (.loop b)::k)):mT P f (.code (0::p) b:: .inLoop (0::p) b::k):=by
 obtain⟨h1,d⟩:=g;exact⟨FR,FR,d⟩
def mT.aN8 (g:mT P f (.inLoop p b::k)):mT P f (.code p b:: .inLoop p b::k):=⟨g.1,g⟩
end
theorem sV {f:FuncId}:∀(n:Nat) {k:HU},mT P f k->Kv (qQ n k)=yX n (Kv k)/\mT P f (qQ n k)
 |0,_,g=>⟨rfl,g⟩
 |_+1,[],g=>⟨rfl,g⟩
 |n+1,.inBlock _::k,g=>sV n (k:=k) g
 |n+1,.inScope _::k,g=>sV n (k:=k) g
 |n+1,.inLoop _ _::_,g=>sV n g.aN8
 |_+1,.beginRound::_,g=>⟨rfl,g⟩
 |n+1,.code p c::k,g=>by
  cases c with
  |skip=>exact sV n g.2
  |label _=>exact sV n g.2
  |seq a b=>exact sV n g.seq
  |block id b=>exact sV n g.block
  |scope b=>exact sV n g.scope
  |loop b=>exact sV n g.loop
  |exit id=>
   show Kv (match yW id k with|some d=>qQ n d|none=>_)=(match exitTo id (Kv k) with|some d=>yX n d|none=>_)/\mT P f (match yW id k with|some d=>qQ n d|none=>_);cases hx:yW id k with
   |some d=>
    obtain⟨h1,e⟩:=zE (P:=P) (f:=f) hx;rw[h1];exact sV n (e g.2)
   |none=>grind[zH]
  |_=>exact⟨rfl,g⟩
structure FT where
 L:List (Nat×EM)
 R:List (Nat×EM)
 hr:Bool
 M:Nat:=0
 F:List (Nat×List (Nat×Nat)):=[]
abbrev HX:=List FT
def aUj (l:List (HX)) (f:FuncId):FT:=((l[f/16]?).getD [])[f % 16]?.getD ⟨[],[],false,0,[]⟩
def peq:EM->EM->Bool
 |[],[]=>true
 |a::l,b::m=>(match Nat.beq a b with
  |true=>peq l m
  |false=>false)
 |_,_=>false
theorem aMj:∀{l m:EM},peq l m=true->l=m
 |[],[],_=>rfl
 |a::l,b::m,h=>by
  unfold peq at h;split at h;rename_i e;rw[pw e,aMj h];cases h
 |[],_::_,h=>EY
 |_::_,[],h=>EY
def zT:EM->Nat
 |[]=>1
 |b::p=>2*zT p+b
def Z6:List (Nat×EM)->EM->Nat->(Nat->Nat->EM->Prop)->Prop
 |[],_,_,_=>hF
 |(n,d)::L,p,i,q=>(match Nat.beq (zT p) n with
  |true=>(match peq p.reverse (iM n) with
   |true=>q i n d
   |false=>hF)
  |false=>nK (i+1) fun i=>Z6 L p i q)
theorem Wr:∀{L:List (Nat×EM)} {p:EM} {i:Nat} {q:Nat->Nat->EM->Prop},Z6 L p i q->∃j n d,L[j]?=some (n,d)/\p=(iM n).reverse/\q (i+j) n d
 |[],_,_,_,h=>h.elim
 |(n,d)::L,p,i,q,h=>by
  unfold Z6 at h;split at h;split at h;exact⟨0,n,d,rfl,by grind[aMj,List.reverse_reverse],h⟩;cases h;obtain⟨j,r,e,h1,m,o⟩:=Wr<|aGp h;exact⟨_,r,e,h1,m,by rw[show i+(j+1)=i+1+j by omega];exact o⟩
def Yf (a:Ek):EM->(EK->Prop)->Prop
 |[],q=>q []
 |t::d,q=>(match a.lk t with
  |some (v,_)=>Yf a d fun e=>q (v::e)
  |none=>hF)
theorem Vy {a:Ek} {env:EK} (d:gU a env):∀{lv:EM} {q:EK->Prop},Yf a lv q->q (lv.map fun t=>env.getD t undef)
 |[],_,h=>h
 |t::lv,q,h=>by
  unfold Yf at h;split at h;rename_i e;have h1:=(d _ _ _ e).1;have:=Vy d h;grind;cases h
def PtI (P:Program) (K:FuncId->EK->HQ) (T:FT) (f:FuncId) (e:Option Nat) (Q:vW->AH->Prop) (i:Nat) (d:EM) (vs:EK) (h:AH):Prop:=
 Pt P K f e Q (ntm P f) ((T.L[i]?).getD (0,[])).2 (.code (Mu P f (iM ((T.L[i]?).getD (0,[])).1).reverse).1::Kv (Mu P f (iM ((T.L[i]?).getD (0,[])).1).reverse).2) d vs h
def wE (T:FT) (a:Ek) (k:HU) (q:Nat->EK->Prop):Prop:=match k with
 |.code p _::_=>Z6 T.L p 0 fun i _ d=>Yf a d fun e=>q i e
 |_=>hF
def aOf {T:FT} {o:Option Nat} {Q:vW->AH->Prop} {m:EM} {h:AH} {a:Ek} {k:HU} (t:gU a env) (v:env.length=ntm P f) (u:mT P f k) (e:wE T a k fun i y=>PtI P K T f o Q i m y h):Ok P K (.todo f o m env<|Kv k) h Q:=by
 unfold wE at e;split at e;obtain⟨j,n,z,h1,r,d⟩:=Wr e;have d:=Vy t d;simp only[PtI,AQ,h1,ss,<-r,u.1] at d;have:=d _ rfl;rwa [Tp v] at this;cases e
def Ye (P:Program) (a:Ek) (h:AH) (r:ResultVar) (d:(EK->Prop)->Prop) (p:EK->Prop):Prop:=match r with
 |.tmp t=>(match a.lk t with
  |some (v,_)=>d fun l=>p (v::l)
  |none=>hF)
 |.cell x t=>(match a.lk x with
  |some (v,_)=>(match lY P t with
   |some true=>gu P t fun n=>bQ (vD h n v) fun v=>d fun l=>p (v::l)
   |some false=>bQ (sA h v) fun v=>d fun l=>p (v::l)
   |none=>hF)
  |none=>hF)
def aA3 (P:Program) (a:Ek) (h:AH) (rs:List ResultVar):(EK->Prop)->Prop:=List.rec (fun p=>p []) (fun r _ d=>Ye P a h r d) rs
theorem Pp {a:Ek} {env:EK} (e:gU a env) {h:AH}:∀{rs:List ResultVar} {p:EK->Prop},aA3 P a h rs p->Wt P h env rs p
 |[],_,d=>d
 |.tmp t::rs,p,d=>by
  have d:Ye P a h (.tmp t) (aA3 P a h rs) p:=d;unfold Ye at d;simp only at d;split at d;rename_i m;have h1:=(e _ _ _ m).1;have:=Pp e d;simp_all[Wt,ay,ss];cases d
 |.cell x t::rs,p,d=>by
  have d:Ye P a h (.cell x t) (aA3 P a h rs) p:=d;unfold Ye at d;simp only at d;split at d;rename_i m;simp only[Wt,ay,(e _ _ _ m).1,ss];split at d;rename_i j;simp only[j];exact(zI d).2.mono fun v o=>Pp e o;rename_i j;simp only[j];exact d.mono fun v o=>Pp e o;cases d;cases d
def aIh (Q:Value->AH->Prop) (l:EK) (h:AH):Prop:=match l with
 |[v]=>Q v h
 |l=>hP<|Q (.tuple ⟨l⟩) h
def aNt {h:AH}:(fun l=>aIh Q l h)=fun l=>Q (A4 l) h:=funext fun l=>match l with
 |[]=>rfl
 |[_]=>rfl
 |_::_::_=>rfl
def aJt (P:Program) (f:FuncId) (m:Bool) (Q:Value->AH->Prop) (lv:Ck) (e:EM) (a:Ek) (h:AH):Prop:=match lv with
 |.exit _=>hF
 |_=>(match m with
  |true=>bQ (cQ e h) fun j=>aA3 P a j ((P.funcs[f]?).elim [] fun d=>d.results.toList) fun l=>aIh Q l j
  |false=>(match e with
   |[]=>aA3 P a h ((P.funcs[f]?).elim [] fun d=>d.results.toList) fun l=>aIh Q l h
   |_=>hF))
theorem aCe {v:Bool} {lv:Ck} {j:EM} {a:Ek} {h:AH} (r:gU a env) (d:aJt P f v Q lv j a h):ml P f Q ⟨lv,j,env,undef⟩ h:=by
 have o:(∀id,lv≠.exit id)->(bQ (cQ j h) fun e=>aA3 P a e ((P.funcs[f]?).elim [] fun t=>t.results.toList) fun l=>aIh Q l e)->ml P f Q ⟨lv,j,env,undef⟩ h:=by
  intro u ⟨e,hc,m⟩;simp only[aNt] at m;refine oq ?_;unfold aTk;cases lv with
  |exit id=>grind
  |nI=>exact⟨e,hc,Pp r m⟩
  |ret=>exact⟨e,hc,Pp r m⟩
 unfold aJt at d;split at d;cases d;split at d;grind;split at d;exact o ER ⟨h,rfl,d⟩;cases d
def aHo:HU->Bool
 |[]=>true
 |.code _ .ret::_=>true
 |.code _ (.exit _)::_=>true
 |_=>false
def ja (k:HU):Bool:=match qQ 60 k with
 |.code _ (.region _ _ _)::d=>aHo (qQ 60 d)
 |d=>aHo d
def wRg (P:Program) (K:FuncId->EK->HQ) (f:FuncId) (m:Nat) (j:Value) (num:Nat) (lv:EM) (vs:EK) (d:Nat) (h:AH) (q:Option Code->AH->Prop):Prop:=
 ∀e:Nat->Value,lv.map e=vs->F4 h (lp P f (iM num) m e d .ready none) fun l o=>Xf P K j l o fun _ t=>bQ (uP t l) fun r=>(match r with|(pd,u)=>q pd u)
def wTF (P:Program) (K:FuncId->EK->HQ) (E:EM->Ek->HU->AH->Prop) (F:Ck->EM->Ek->AH->Prop) (T:FT) (f:FuncId) (m:Nat) (N:Option Nat) (r:EM->Ek->HU->AH->Prop) (o:EM) (a:Ek) (k:HU) (h:AH):Prop:=(match k with
  |[]=>F .nI o a h
  |.code p c::k=>(match c with
   |.skip=>r o a k h
   |.label _=>r o a k h
   |.seq x y=>r o a (.code (0::p) x:: .code (1::p) y::k) h
   |.cond c t e=>(match knW a c with
    |.b true=>r o a (.code (0::p) t::k) h
    |.b false=>r o a (.code (1::p) e::k) h
    |_=>Cs P a c fun v=>Br v
     (match ja (.code (0::p) t::k) with
     |true=>r o a (.code (0::p) t::k) h
     |false=>E o a (qQ 60 (.code (0::p) t::k)) h)
     (match ja (.code (1::p) e::k) with
     |true=>r o a (.code (1::p) e::k) h
     |false=>E o a (qQ 60 (.code (1::p) e::k)) h))
   |.block id b=>r o a (.code (0::p) b:: .inBlock id::k) h
   |.loop b=>E o a (qQ 60 (.code (0::p) b:: .inLoop (0::p) b::k)) h
   |.scope b=>r o a (.code (0::p) b:: .inScope b::k) h
   |.exit id=>(match yW id k with
    |some A=>r o a A h
    |none=>(match N with
     |some _=>F (.exit id) o a h
     |none=>hF))
   |.ret=>F .ret o a h
   |.region _ ops false=>aJc P K T.M m (fun j=>(ops[j]?).bind (·.dst)) ops.toList a h fun I u=>r o I k u
   |.region id ops true=>aMl P K T.M m T.F id ops a h fun I u=>r o I k u
   |.rangeFunc D _ _ z=>Cs P a D fun D=>Z6 T.R p 0 fun _ num J=>Yf a J fun O=>(match N with
    |none=>F4 h (.vA true) fun d h1=>wRg P K f m D num J O d h1 fun pd u=>xZ pd (r (d::o) a k u) (F .ret (d::o) a u)
      ((nN z).map fun id=>(id,(match yW id k with
       |some A=>r (d::o) a A u
       |none=>hF)))
    |some l=>bQ (gY h l) fun d=>wRg P K f m D num J O d h fun pd u=>xZ pd (r o a k u) (F .ret o a u)
      ((nN z).map fun id=>(id,(match yW id k with
       |some A=>r o a A u
       |none=>F (.exit id) o a u))))
   |_=>hF)
  |.inBlock _::k=>r o a k h
  |.inScope _::k=>r o a k h
  |.inLoop p b::k=>E o a (qQ 60 (.code p b:: .inLoop p b::k)) h
  |.beginRound::k=>(match N with
   |some l=>bQ (mK h l) fun u=>r o a k u
   |none=>hF))
def wT (P:Program) (K:FuncId->EK->HQ) (E:EM->Ek->HU->AH->Prop) (F:Ck->EM->Ek->AH->Prop) (T:FT) (f:FuncId) (m:Nat) (e:Option Nat) (n:Nat):EM->Ek->HU->AH->Prop:=
 Nat.rec (fun _ _ _ _=>hF) (fun _ d=>wTF P K E F T f m e d) n
theorem aB8 {b:Nat} {q:EM} {c:Code} {k k':HU}:(rP b p (c,k)).1=(rP b q (c,k')).1:=by
 unfold rP;grind
theorem aD0 {b:Nat} {c:Code} {l:EM}:Ms c (b::l)=Ms (rP b [] (c,[])).1 l:=by
 have d:∀l:EM,Ms .skip l= .skip:=fun l=>by grind[Ms]
 rcases b with _|_|b<;>cases c<;>simp[Ms,rP,d]
def Ru:∀(l:EM) (c:Code),Ms c l=l.foldl (fun c b=>(rP b [] (c,[])).1) c
 |[],c=>by simp[Ms]
 |b::l,c=>by rw[aD0,Ru l];rfl
def Xx {f:FuncId}:∀p:EM,(Mu P f p).1=Ms ((O1 P f).getD .skip) p.reverse
 |[]=>by simp[Mu,Ms]
 |b::p=>by
  have h1:(Mu P f (b::p)).1=(rP b [] ((Mu P f p).1,[])).1:=aB8;rw[h1,Xx p,DR,Ru,Ru,DS];rfl
theorem aMr {m:Nat} {A:Operand} {num:Nat} {u r:Code} {d:Nat} {h:AH} {q:Option Code->AH->Prop} (I:env.length=m) (hc:cd P f (iM num)= .rangeFunc A ps u r)
  (F:wRg P K f m v num lv (lv.map fun t=>env.getD t undef) d h q):
  ∃n g first j o y p z,v= .func (.func g) first j/\iR P g=true/\run P K n (.call g<|first.toList++[.func (.yield h.next) #[] #[]]++j.toList) (h.alloc<|.loop .ready none f env ps u r d)=some (o,y)/\
   uP y h.next=some (p,z)/\q p z:=by
 refine Of (lv:=lv) ?_
 intro e D
 have:=F e D
 grind[lp,rgF]
def sO {e:Option Nat} {d:EM} {k k':List Item} {h:AH} {Q:vW->AH->Prop} (o:Ok P K (.todo f e d env k') h Q) (j:∀m,run P K (m+1) (.todo f e d env k) h=run P K m (.todo f e d env k') h):Ok P K (.todo f e d env k) h Q:=H0 j o
theorem aIp {E:EM->Ek->HU->AH->Prop} {F:Ck->EM->Ek->AH->Prop} {T:FT} {f:FuncId} {m:Nat} {X:Option Nat} {Q:vW->AH->Prop}
  (hE:∀I a env k h,gU a env->env.length=m->mT P f k->E I a k h->Ok P K (.todo f X I env<|Kv k) h Q) (hF:∀lv I a env h,gU a env->F lv I a h->Q ⟨lv,I,env,undef⟩ h):
  ∀(n:Nat) {I:EM} {a:Ek} {env:EK} {k:HU} {h:AH},gU a env->env.length=m->mT P f k->wT P K E F T f m X n I a k h->Ok P K (.todo f X I env<|Kv k) h Q
 |0,_,_,_,_,_,_,_,_,u=>u.elim
 |n+1,I,a,env,k,h,v,J,A,u=>by
  have N:∀{I:EM} {a:Ek} {env:EK} {k:HU} {h:AH},gU a env->env.length=m->mT P f k->wT P K E F T f m X n I a k h->Ok P K _ h Q:=fun x y z w=>aIp hE hF n x y z w;have nm:∀{k:HU},mT P f k->E I a _ h->Ok P K _ h Q:=fun g hk=>by
   obtain⟨h1,h2⟩:=sV 60 g;exact Rp 60<|h1▸hE _ _ _ _ _ v J h2 hk
  have go:∀{Y:HU},mT P f Y->(match ja Y with
     |true=>wT P K E F T f m X n I a Y h
     |false=>E I a (qQ 60 Y) h)->Ok P K (.todo f X I env<|Kv Y) h Q:=by
   intro Y g hk
   split at hk
   .grind
   .grind
  change wTF P K E F T f m X (wT P K E F T f m X n) I a k h at u;unfold wTF at u;split at u;exact⟨1,_,rfl,ES⟩;rename_i p c k;split at u;exact sO (N v J A.2 u) fun _=>rfl;exact sO (N v J A.2 u) fun _=>rfl;exact sO (N v J A.seq u) fun _=>rfl;rename_i c t e;have g1:mT P f (.code (0::p) t::k):=⟨by simp only[Mu,A.1,rP],A.2⟩;have g2:mT P f (.code (1::p) e::k):=⟨by simp only[Mu,A.1,rP],A.2⟩;obtain⟨k1,k2⟩:=aBs (P:=P) (x:=c) v;split at u;rename_i hk;exact Vv (di (b:=true) (fun _=>N v J g1 u) EV|>fun x=>by rw[k1 _ hk];exact x);rename_i hk;exact Vv (di (b:=false) EV (fun _=>N v J g2 u)|>fun x=>by rw[k1 _ hk];exact x);exact Vv (let⟨b,x,y,z⟩:=iX v u;⟨b,x,fun t=>go g1<|y t,fun t=>go g2<|z t⟩);exact sO (N v J A.block u) fun _=>rfl;exact sO (nm A.loop u) fun _=>rfl;exact sO (N v J A.scope u) fun _=>rfl;split at u;rename_i Y V;obtain⟨h1,h2⟩:=zE (P:=P) (f:=f) V;refine sO (N v J (h2 A.2) u) fun m=>?_;show fF P (run P K m) _ _ _ _ (.code _::Kv k) _=_;grind[fF];rename_i V;split at u;refine⟨1,(⟨_,I,env,_⟩,h),?_,hF _ _ _ _ _ v u⟩;show fF P (run P K 0) _ _ _ _ (.code _::Kv k) _=_;simp only[fF,zH V,DG,e9];cases u;exact⟨1,_,rfl,ES⟩;obtain⟨n1,o,h1,a',hr,δ,ζ,u⟩:=ij v J u;obtain⟨n2,r,U,hq⟩:=N δ ζ A.2 u;refine⟨max n1 n2+1,r,?_,hq⟩;show fF P (run P K _) _ _ _ _ (.code _::Kv k) _=_;simp only[fF];rw[nP ER _ _ _ hr];exact nP ER _ _ _ U;obtain⟨n1,e,h1,a',hr,δ,ζ,u⟩:=aJv v J u;obtain⟨n2,r,U,hq⟩:=N δ ζ A.2 u;refine⟨max n1 n2+1,r,?_,hq⟩;show fF P (run P K _) _ _ _ _ (.code _::Kv k) _=_;simp only[fF];rw[Ow (nP ER) hr];exact nP ER _ _ _ U;rename_i fv ps η γ;have u:=iX v u;obtain⟨j,num,lv,_,hp,u⟩:=Wr u;have u:=Vy v u;have hc:cd P f (iM num)= .rangeFunc fv ps η γ:=by
   have:=Xx (P:=P) (f:=f) p;rw[A.1,hp,DA] at this;exact this.symm
  have ex:∀{O:EM} {h4:AH} {pd:Option Code},xZ pd (wT P K E F T f m X n O a k h4) (F .ret O a h4)
    ((nN γ).map fun id=>(id,(match yW id k with
     |some Y=>wT P K E F T f m X n O a Y h4
     |none=>(match X with
      |none=>False
      |some _=>F (.exit id) O a h4))))->Ok P K (.todo f X O env<|(pd.map Item.code).toList++Kv k) h4 Q:=by
   intro O h4 pd V
   unfold xZ at V
   split at V
   .exact N v J A.2 V
   .exact⟨1,_,rfl,ES⟩
   .split at V
    .rename_i hl;have:=jz hl;subst this;split at V
     .rename_i Y hy;obtain⟨h1,h2⟩:=zE (P:=P) (f:=f) hy;refine sO (N v J (h2 A.2) V) fun m=>?_;simp_all[fF,run,Kv]
     .rename_i hy;split at V
      .cases V
      .refine⟨1,(⟨_,O,env,_⟩,h4),?_,hF _ _ _ _ _ v V⟩;show fF P (run P K 0) _ _ _ _ (.code _::Kv k) _=_;simp only[fF,zH hy,DG,e9]
    .cases V
   .cases V
  split at u;unfold F4 at u;obtain⟨n1,g,first,W,o,h3,p,h4,hf,ε,hr,D,u⟩:=aMr J hc u;obtain⟨n2,r,U,hq⟩:=ex u;refine⟨max n1 n2+1,r,?_,hq⟩;show fF P (run P K _) _ _ _ _ (.code _::Kv k) _=_;unfold uP at D;split at D;rename_i hl;split at D;cases D;rename_i hb;simp only[aV] at D;obtain⟨h5,D,h6⟩:=D;cases h6;simp only[fF,hf,ε,e9];rw[nP ER _ _ _ hr];simp only[hl,hb,c9,D];exact nP ER _ _ _ U;cases D;obtain⟨d,β,u⟩:=u;obtain⟨n1,g,first,W,o,h3,p,h4,hf,ε,hr,D,u⟩:=aMr J hc u;obtain⟨n2,r,U,hq⟩:=ex u;refine⟨max n1 n2+1,r,?_,hq⟩;show fF P (run P K _) _ _ _ _ (.code _::Kv k) _=_;unfold uP at D;unfold gY at β;split at β;rename_i θ;cases β;split at D;rename_i hl;split at D;cases D;rename_i hb;simp only[aV] at D;obtain⟨h5,D,h6⟩:=D;cases h6;simp only[fF,θ,hf,ε,e9];rw[nP ER _ _ _ hr];simp only[hl,hb,c9,D];exact nP ER _ _ _ U;cases D;cases β;cases u;rename_i k;exact sO (N (k:=k) v J A u) fun _=>rfl;rename_i k;exact sO (N (k:=k) v J A u) fun _=>rfl;exact sO (nm A.aN8 u) fun _=>rfl;rename_i k;split at u;obtain⟨h',h1,h2⟩:=u;unfold mK at h1;split at h1;refine H0 (t':= .todo f _ I env (Kv k)) (fun m=>?_)<|N v J A h2;show fF P (run P K m) _ _ _ _ (.beginRound::Kv k) _=_;grind[fF];cases h1;cases u
theorem cv {f:FuncId}:∀p:EM,mT P f (Mu P f p).2
 |[]=>trivial
 |b::p=>by
  have d:=cv (f:=f) p;have h1:∀c,Mu P f (c::p)=rP c p _:=fun _=>rfl;rw[h1];generalize e:Mu P f p=x at d h1;obtain⟨c,k⟩:=x;rcases b with _|_|b<;>cases c<;>simp_all [rP,mT]
def D (P:Program) (K:FuncId->EK->HQ) (T:FuncId->FT) (f:FuncId) (i:Nat) (d:EM) (Q:Value->AH->Prop) (vs:EK) (h:AH):Prop:=PtI P K (T f) f none (ml P f Q) i d vs h
def R (P:Program) (K:FuncId->EK->HQ) (T:FuncId->FT) (f:FuncId) (i:Nat) (l:Nat) (Q:Value->AH->Prop) (vs:EK) (h:AH):Prop:=PtI P K (T f) f (some l) (H2 l Q) i [] vs h
def fW (P:Program) (f:FuncId) (q:Nat->Code->Prop):Prop:=match P.funcs[f]? with
 |some ⟨_,_,_,_,_,_,n,_,some c,_,_,_,_,_,_,_⟩=>q n c
 |_=>hF
theorem aOl {q:Nat->Code->Prop} (h:fW P f q):∃d c,P.funcs[f]?=some d/\d.body=some c/\ntm P f=d.ntmps/\O1 P f=some c/\q d.ntmps c:=by
 rw[fW] at h;split at h;grind[ntm,O1];cases h
def aBd (m:Nat):EM->EK->Ek->(Ek->Prop)->Prop
 |[],[],a,q=>q a
 |t::d,v::e,a,q=>(match Nat.blt t m with
  |true=>aBd m d e ((t,v,.un)::a) q
  |false=>hF)
 |_,_,_,_=>hF
theorem Wq {m:Nat}:∀{lv:EM} {vs:EK} {a:Ek} {env:EK} {q:Ek->Prop},gU a env->env.length=m->aBd m lv vs a q->∃j,gU j ((lv.zip vs).foldl (fun t (p,v)=>t.set p v) env)/\((lv.zip vs).foldl (fun t (p,v)=>t.set p v) env).length=m/\lv.length=vs.length/\q j
 |[],[],a,env,q,o,r,d=>⟨a,o,r,rfl,d⟩
 |t::lv,v::vs,a,env,q,o,r,d=>by
  rw[aBd] at d;split at d;rename_i e;have⟨j,h1,h2,h3,h4⟩:=Wq (o.cons (r.symm▸(l7 e)) ES ES) ES d;exact⟨j,h1,h2,by simp[h3],h4⟩;cases d
 |[],_::_,_,_,_,_,_,d=>d.elim
 |_::_,[],_,_,_,_,_,d=>d.elim
theorem aFw {t:Nat} (h:∀u,env[t]?=some u->u=v):env.set t v=env:=by
 refine mn fun i=>?_;grind
theorem Pg {e:Nat->Value} {m:Nat}:∀{lv:EM} {vs:EK},lv.map e=vs->(lv.zip vs).foldl (fun t (p,v)=>t.set p v) ((List.range m).map e)=(List.range m).map e
 |[],_,_=>rfl
 |t::lv,vs,h=>by
  subst h;rw[kx,List.zip_cons_cons,CH];show List.foldl _ (((List.range m).map e).set t _) _=_;rw[aFw,Pg rfl];grind
theorem gU.nil:gU [] env:=fun _ _ _ h=>EY
def wD (P:Program) (K:FuncId->EK->HQ) (T:FuncId->FT) (f:FuncId) (i:Nat) (d:EM) (Q:Value->AH->Prop) (vs:EK) (h:AH):Prop:=match(T f).L[i]? with
 |some (num,e)=>fcL (iM num).reverse fun p=>(match Mu P f p with
  |(c,k)=>fW P f fun m _=>aBd m e vs [] fun a=>wT P K (fun d a k h=>wE (T f) a k fun i vs=>D P K T f i d Q vs h) (aJt P f (T f).hr Q) (T f) f m none 200 d a (.code p c::k) h)
 |none=>hF
def bW {T:FuncId->FT} {m:EM} {h:AH} (d:wD P K T f i m Q vs h):D P K T f i m Q vs h:=by
 rw[wD] at d;split at d;rename_i num y v;have d:=Pn d;generalize t:Mu P f _=x at d;obtain⟨c,k⟩:=x;have⟨fn,_,_,_,hm,_,d⟩:=aOl d;unfold D PtI;simp[v,ss,t];intro e u;rw[hm];have⟨a,h1,h2,_,d⟩:=Wq (env:=(List.range fn.ntmps).map e) gU.nil EV d;rw[Pg u] at h1 h2;have o:=cv (P:=P) (f:=f) (iM num).reverse;rw[t] at o;exact aIp (fun m a j k h r z o hE=>aOf r ER o hE) (fun y m a j h r hF=>aCe r hF) 200 (k:= .code _ c::k) h1 h2 ⟨t,o⟩ d;cases d
def aGj {T:FuncId->FT} {l:Nat} {m:Nat} (t:ntm P f=m):∀e a d k h,gU a d->d.length=m->mT P f k->(match e with
   |[]=>wE (T f) a k fun i r=>R P K T f i l Q r h
   |_=>False)->Ok P K (.todo f (some l) e d<|Kv k) h (H2 l Q):=by
 intro e a d k h j u o hE
 split at hE
 .exact aOf j ER o hE
 .cases hE
def aPp:Nat->EK->Ek->(Ek->Prop)->Prop
 |_,[],a,q=>q a
 |i,v::l,a,q=>nK (i+1) fun j=>aPp j l ((i,v,.un)::a) q
theorem gU.add {a:Ek} (m:gU a env) {d:Nat} (o:env[d]?=some v):gU ((d,v,.un)::a) env:=by
 intro t u j e;unfold Ek.lk at e;split at e;grind[Nat.eq_of_beq_eq_true];exact m t u j e
theorem aC2 {env:EK}:∀{l:EK} {i:Nat} {a:Ek} {q:Ek->Prop},gU a env->(∀j v,l[j]?=some v->env[i+j]?=some v)->aPp i l a q->∃m,gU m env/\q m
 |[],_,a,_,d,_,e=>⟨a,d,e⟩
 |v::l,i,a,q,d,o,e=>aC2 (l:=l) (d.add<|o 0 v rfl) (fun j u r=>by have:=o (j+1) u ES;grind)<|aGp e
def aGg (n m:Nat):EM->Ek->(Ek->Prop)->Prop
 |[],a,q=>hP (q a)
 |t::d,a,q=>(match Nat.ble n t with
  |true=>(match Nat.blt t m with
   |true=>aGg n m d ((t,undef,.un)::a) q
   |false=>hF)
  |false=>aGg n m d a q)
theorem ju {args:EK} {m:Nat}:∀{lv:EM} {a:Ek} {q:Ek->Prop},gU a (args++List.replicate (m - args.length) undef)->aGg args.length m lv a q->∃j,gU j (args++List.replicate (m - args.length) undef)/\q j
 |[],a,_,e,d=>⟨a,e,d⟩
 |t::lv,a,q,e,d=>by
  rw[aGg] at d;split at d;rename_i h1;have h1:=l7 h1;split at d;rename_i o;have o:t<m:=l7 o;refine ju (e.add ?_) d;grind;cases d;exact ju e d
def wC (P:Program) (K:FuncId->EK->HQ) (T:FuncId->FT) (f:FuncId) (args:EK) (Q:Value->AH->Prop) (h:AH):Prop:=match K f args with
 |none=>fW P f fun m c=>(match Nat.ble args.length m with
  |true=>aPp 0 args [] fun a=>nK args.length fun n=>aGg n m (((T f).L[0]?).getD (0,[])).2 a fun a=>wT P K (fun d a k h=>wE (T f) a k fun i e=>D P K T f i d Q e h) (aJt P f (T f).hr Q) (T f) f m none 200 [] a [.code [] c] h
  |false=>hF)
 |some _=>hF
theorem cW {T:FuncId->FT} {args:EK} {h:AH} (d:wC P K T f args Q h):Cl P K f args h Q:=by
 rw[wC] at d;split at d;rename_i r;have⟨fn,c,hf,hb,hm,hbo,d⟩:=aOl d;apply aKt hf hb r;split at d;rename_i hle;have hle:=l7 hle;have⟨a,h1,d⟩:=aC2 (env:=args++List.replicate (fn.ntmps - args.length) undef) gU.nil (fun j v y=>by
  grind) d
 have⟨a,h1,d⟩:=ju h1<|aGp d;exact aIp (fun o a e k h m u t hE=>aOf m ER t hE) (fun z o a e h m hF=>aCe m hF) 200 (k:=[.code [] c]) h1 EW ⟨by grind[Mu],trivial⟩ d;cases d;cases d
def wR0 (P:Program) (K:FuncId->EK->HQ) (T:FuncId->FT) (f:FuncId) (num m:Nat) (lv:EM) (vs:EK) (l:Nat) (args:EK) (Q:Value->AH->Prop) (h:AH):Prop:=fcL (iM num).reverse fun p=>(match Mu P f p with
 |(.rangeFunc _ r e d,_)=>fW P f fun o _=>(match Nat.beq o m with
  |true=>aBd m lv vs [] fun a=>aBd m r.toList args a fun a=>wT P K (fun j a k h=>(match j with
   |[]=>wE (T f) a k fun i vs=>R P K T f i l Q vs h
   |_=>hF)) (fun lv j _ h=>oe l Q lv j [] h) (T f) f m (some l) 200 [] a [.code (0::p) e,.beginRound,.code (1::p) d] h
  |false=>hF)
 |_=>hF)
theorem rW {T:FuncId->FT} {num m l d:Nat} {args:EK} {e:Nat->Value} {h:AH} (u:h.get l=some (lp P f (iM num) m e d st pd)) (z:List.map e lv=vs)
  (j:wR0 P K T f num m lv vs l args Q h):Cx P K (.func (.yield l) #[] #[]) args h Q:=by
 have j:=Pn j
 split at j
 .rename_i v D t o k A;have⟨fn,_,_,_,hm,_,j⟩:=aOl j;split at j
  .rename_i y;have⟨a,h1,h2,_,j⟩:=Wq (env:=(List.range m).map e) gU.nil EV j;rw[Pg z] at h1 h2;have⟨a,h1,h2,hl,j⟩:=Wq h1 h2 j;have hc:cd P f (iM num)= .rangeFunc v D t o:=by
    have:=Xx (P:=P) (f:=f) (iM num).reverse;rw[A,DA] at this;exact this.symm
   simp[lp,hc,rgF] at u
   refine aBc<|aG7 u ES ?_
   exact aIp (aGj<|hm.trans<|pw y) (fun lv F a r h I hF=>by exact(V1 (env:=r) hF)) 200 (k:=[.code _ t,.beginRound,.code _ o]) h1 h2
    ⟨FR,FR,trivial⟩ j
  .cases j
 .cases j
end
end Go.Ab
variable {L':HL} {a:EN}
namespace Go.Ab
variable {K:FuncId->EK->HQ} {G:Bg} {h:AH} {L M:HL}
variable {z:EK}
theorem aT1 {W c:Nat} {k:Value->AH->Prop} (hW:0<W) (D:∀m,(gB z m).length=m*W/\(gB z m).all gA=true) (hi:i<n) (t:Hs G h L) [m:dH (dJ W e a c) L (n,cs) L']
  (hk:∀J,Hs G J (dJ W e a c (i,cs.take<|i*W)::L')->k (.slice a i c) J):
  bQ (Ao W h (.slice a n c) (some<|I i) none none) fun v0=>bQ (jX z h v0) fun T=>(fun _ N=>bQ (Ao W N (.slice a n c) none (some<|I i) none) fun v4=>k v4 N) T.1 T.2:=by
 have t:=m.of t
 have hl:=t.Eb
 have hc:=t.Dn
 simp only at hl hc
 have d:n<=c:=by
  obtain⟨r,r2,⟨_,_,hr⟩,_⟩:=t.fst;rcases hr with⟨D,_⟩|⟨D,_⟩|⟨d,_⟩;grind;grind;exact d
 obtain⟨b,o,rfl,H,v,close⟩:=t.sQ ER
 have O:0<n*W:=Nat.mul_pos ER hW
 have F:qI none c c=some c:=rfl
 have U:qI (some<|I i) n c=some i:=FF
 have V:qI none 0 i=some 0:=rfl
 have X:qI none n c=some n:=rfl
 have Y:qI (some<|I i) 0 n=some i:=FF
 have β:i*W<=n*W:=p9 W ER
 have Q:(n - i)*W=n*W - i*W:=ES
 refine⟨.slice (some ⟨b,o+i*W,none⟩) (n - i)<|c - i,?_,?_⟩
 .simp only[Ao,F,X,Y,ya,dd,AL,aO,c9,dZ,ER];grind
 obtain⟨h1,A,u⟩:=v.dX (j:=i*W) (vs:=gB z<|n - i) ES (D _).2 ER
 refine⟨(.tuple #[],h1),?_,?_⟩
 .simp only[jX,aXf<|show ¬n - i=0 by omega,A,l4]
 refine⟨_,?_,hk h1 ?_⟩
 .simp only[Ao,F,U,V,AX,u7,dd,aO,c9,ER,dZ];grind
 have y:dK cs (i*W) (gB z<|n - i)=cs.take (i*W)++gB z (n - i):=by
  unfold dK;rw[AR ES,hX]
 rw[y] at u
 refine Oo ER ER GO<|close h1 _ _ ?_ ?_ u
 .grind
 grind
instance {p:Nat}:Cv (jE p) [jE p]:=⟨rfl⟩
def aTo {k:Nat->AH->Prop} (m:Hs G h L) [o:Cv v cs] (j:∀p d,Hs G d (aG p 0 cs::mt p (e,true,cs.length)::L)->k p d):bQ (nA e v) fun b=>F4 h b k:=
 ⟨.cells cs e (0,0) true,by simp[nA,o.eq],j _ _ m.lK⟩
variable {r:Nat}
theorem Hs.aNj {D:EM} {o:oU} (ho:Oz o=true) (u:Hs G h (frs r n D::L)) (hi:i<n) (hD:i∉D):
  Hs G (h.set (r+i)<|some o) (ot (r+i) o::frs r n (i::D)::L):=by
 obtain⟨q,⟨r1,U,h1,W,F,X⟩,Y⟩:=u.R3
 cases h1
 subst X
 obtain⟨i1,i2⟩:=(dQ.gQ F).1 Y
 obtain⟨q1,q2,N,⟨q3,q4,O,Q,β,z⟩,hd,T⟩:=Yd (r:=r) hi hD
 cases N;cases Q
 rw[dQ.add_comm ER,dQ.jA] at z
 subst z
 cases O
 rw[T] at i1 F
 obtain⟨i3,i4⟩:=(dQ.gQ hd).1 i1
 obtain⟨fb,fn,fg⟩:=i3.iW (r+i) EV
 obtain⟨d1,d2⟩:=dQ.kG.1 F.symm
 have d:∀j,(h.set _ _).get j=if j=r+i then some o else h.get j:=fun j=>AH.kP<|hI u.le fb
 have m:=(dQ.gQ d2.symm).2 ⟨i4,i2⟩
 have J:((⟨fun _ _=>none,fun b=>if r<=b/\b<r+n/\(b - r)∉(i::D) then some .iW else none⟩:dQ).add U).sB (r+i)=none:=by
  simp only[dQ.add];rw[aXf ES];rcases d1.sB (r+i) with h|h;grind;simp at h
 have y:(⟨fun _ _=>none,fun V=>if V=r+i then some (.Eg o) else none⟩:dQ).yS ((⟨fun _ _=>none,fun b=>if r<=b/\b<r+n/\(b - r)∉(i::D) then some .iW else none⟩:dQ).add U):=by
  refine⟨ES,fun b=>?_⟩;by_cases t:b=r+i;grind;grind
 refine⟨by simp;exact u.base,fun j A=>by rw[d,aab];exact u.old j A,by simp;exact u.wf,fun j A=>by simp at A;rw[d,aab];exact u.fr j A,
    _,⟨_,_,rfl,⟨_,U,rfl,W,d2.symm,rfl⟩,y,rfl⟩,(dQ.gQ y).2 ⟨?_,?_⟩⟩
 .refine⟨ES,fun b e=>?_,fun b e' x' n e=>?_,fun b o' e=>?_⟩
  .simp only at e;split at e<;>cases e
  .simp only at e;split at e<;>cases e
  .simp only at e;split at e
   .rename_i t;subst t;cases e;exact⟨fb,by rw[d,aXg rfl],ho⟩
   .cases e
 .refine m.of EV EV fun b t=>?_;rw[d,aXf];intro I;subst I;rcases t with t|⟨o,t⟩
  .exact t J
  .apply t;cases hc:dQ.fK _ _ o with
   |none=>rfl
   |some v=>obtain⟨_,_,_,_,g,_⟩:=m.fK _ o v hc;grind
theorem kq {D:EM} {k:Nat->AH->Prop} (j:Hs G h L) [m:dH (ra r) L (n,D) L'] (t:Nat.blt i n=true) (hD:D.contains i=false)
  (e:∀p d,Hs G d (oB p (fun _=>none)::ra r (n,i::D)::L')->k p d):pC h (r+i) (.map [] 0) k:=
 e _ _ (wY (es:=[]) (cl:=0) ⟨EV,EV,EV,EV⟩ (fun _=>rfl)<|Hs.aNj (o:= .map [] 0) rfl (show Hs G h (frs r n D::L') from m.of j) FY ES)
def pE (p:Nat):EK:=[IE p]
instance:Fx pE 1 where
 len _:=rfl
 cel _:=rfl
def aBw {c:Nat} {l:EM} {k:Value->Prop} (u:Hs G h L) [m:dH (ls pE 1 e a c) L l L'] (r:i<l.length) (t:k (IE<|l.getD i 0)):bQ (mQ 1 (.slice a l.length c)<|I i) fun p=>bQ (sA h p) k:=by
 obtain⟨b,o,rfl,d⟩:=(m.of u).gF ER;refine dR r ?_;rw[show pt b _ 0=pt b o (i*1) by simp[pt]];exact aD d (I4 (W:=1) (j:=0) (by rw[ay,aL r];rfl) rfl) t
theorem aGx {c q:Nat} {l:EM} {k:AH->Prop} (y:Hs G h L) [m:dH (ls pE 1 e a c) L l L'] (r:i<l.length) (v:∀d,Hs G d (ls pE 1 e a c (l.set i q)::L')->k d):bQ (mQ 1 (.slice a l.length c)<|I i) fun p=>bQ (vT h 1 p<|IE q) k:=by
 obtain⟨b,o,rfl,j⟩:=(m.of y).gF ER;refine dR r ?_;rw[show pt b _ 0=pt b o (i*1) by simp[pt]];have t:(eL pE l).length=l.length*1:=Dc;refine bS j rfl (k6 ER) rfl (k6 ER) fun d u=>v d ?_;have z:dU (eL pE l) _ [IE q]=eL pE _:=aD3 r;grind[ls,List.length_set,Hs.kZ,Dc,Kw]
def qF {α:Type} (R:Nat->Nat->α->HP) (l:EM) (s:Nat->α):HP:=dV l.length fun k=>R k (l.getD k 0)<|s k
def Fs {α:Type} (R:Nat->Nat->α->HP) (l:EM) (s:Nat->α) (i:Nat):HP:=sp<|((List.range l.length).erase i).map fun k=>R k (l.getD k 0)<|s k
variable {α:Type} {R:Nat->Nat->α->HP} {l:EM} {s:Nat->α} {q:Nat} {x:α}
def gC (d:i<l.length) (e:Hs G h L) [m:dH (qF R l) L s L']:Hs G h (R i (l.getD i 0) (s i)::Fs R l s i::L'):=(show Hs G h (dV l.length (fun k=>R k (l.getD k 0)<|s k)::L') from m.of e).kE i d
def aC6 (d:i<l.length) (o:Hs G h (R i q x::Fs R l s i::L)):Hs G h (qF R (l.set i q) (fun j=>if j=i then x else s j)::L):=by
 unfold qF;rw[ri];refine Hs.aCm (f:=fun k=>R k (l.getD k 0)<|s k) d (fun j m=>?_) ?_;simp only[aXf m,ay,BU];rw[aXf fun e=>m e.symm];simp only[e9,ay,BU,d,ss];exact o
theorem Az (d:i<l.length) (e:Hs G h (R i (l.getD i 0) x::Fs R l s i::L)):Hs G h (qF R l (fun j=>if j=i then x else s j)::L):=by
 have:=aC6 d e;simp_all
def Ny (d:Hs G h L):Hs G h (qF R [] s::L):=Hs.Zs d
def Ni (m:Hs G h (R l.length q (s l.length)::qF R l s::L)):Hs G h (qF R (l++[q]) s::L):=by
 unfold qF;rw[bj,kd];refine Hs.Y4 ?_;have e:(l++[q]).getD l.length 0=q:=by simp[ay]
 rw[e];refine(wV (fun j d=>?_)<|m.cR<|List.Perm.swap _ _ _).cR (List.Perm.swap _ _ _);simp only[ay,p4 d]
end Go.Ab
variable {o:List (Option IntKind)}
namespace Go.Ab
open Go.RowKit Go.ChangeShapes Go.WideShapes Go.ChangeAt
variable {fs:Array Field}
section
variable {H:Type} {enc:TypeId×Value->H}
def aDx {base:Nat} (e:P.underlying t=some (.struct fs)) (d:Value.okWide P W .any base t v):∃l,v= .agg ⟨l⟩/\l.length=P.cellsOf t:=by
 simp[Value.okWide,e] at d;obtain⟨⟨l⟩,rfl,h,_⟩:=d;exact⟨l,rfl,h⟩
def zZ {f:Field} {d:DataW H} {p:List MemPlace} (D:P.underlying t=some (.struct fs)) (u:fs[i]?=some f)
  (F:P.underlying f.type=some (.slice e)) (h1:P.cellsOf f.type=1) (A:vU P n e=some o) (hc:P.cellsOf e=o.length) (y:0<o.length)
  (h:DataW.Trod enc P W 0 (fun _=>true) true t (.agg ⟨l⟩) d p):∃a len j,l[f.offset]?=some (.slice a len j)/\oL o W a len j:=by
 obtain⟨fuel,r⟩:=h
 have⟨xs,m,_,_,hl,hx,hall⟩:=BT D r
 have v:=hall i f u
 rw[aL<|by rw[hx];exact(fj.1 u).1] at v
 have⟨a,len,j,hcs,hr⟩:=Kd F A hc y v
 refine⟨a,len,j,?_,hr⟩
 rw[h1] at hcs
 have:=eb (fun z=>z[0]?) hcs
 simpa [Value.cells] using this
end
def Gm {α:Type} {f:α->EK} {R:α->Prop} {W:Nat} {at':Nat->EK} (hex:∀i,i<n->∃x,at' i=f x/\R x):
  ∃l:List α,l.length=n/\(∀x∈l,R x)/\∀(G:Bg) (v:Value),wM G W v n at'->wM G W v (l.map f).length (fun i=>(l.map f).getD i []):=by
 let l:List α:=(List.finRange n).map fun i=>(hex i.1 i.2).choose
 have j:l.length=n:=by simp[l]
 have m:∀i,(d:i<n)->l[i]?=some (hex i d).choose:=fun i d=>by
  simp[l,gi,aL<|show i<(List.finRange n).length by simp;exact d]
 refine⟨l,j,fun x t=>?_,fun G v r=>?_⟩
 .obtain⟨i,_,rfl⟩:=gL.1 t;exact(hex i.1 i.2).choose_spec.2
 .obtain⟨a,c,rfl,e⟩:=r;rw[js,j];refine⟨a,c,rfl,fun i d=>?_⟩;have⟨b,o,cells,h1,h2,h3,h4⟩:=e i d;refine⟨b,o,cells,h1,h2,?_,h4⟩;rw[h3,(hex i d).choose_spec.1];show f _=(l.map f).getD i [];rw[ay,gi,m i d];rfl
def aDh (G:Bg) (v:Value) (n:Nat):Prop:=(v= .slice none 0 0/\n=0)\/(v= .slice (some ⟨0,0,some 0⟩) 0 0/\n=0)\/
 ∃k o c cells e d,v= .slice (some ⟨k,o,none⟩) n c/\0<n/\n<=c/\k<G.base/\G.old k=some (.cells cells e d false)
def Dh (P:Program) {len cap:Nat} (h:oL d w a len cap):∃(r:OB) (t:Nat->Value),xw P w r/\
  (∀ρ k,ρ k=r.2->aZ ρ (t k) (.slice a len cap))/\∃at':Nat->EK,(∀i,i<len->pI d (at' i))/\∀(G:Bg) k,k<G.base->G.old k=r.1->wM G d.length (t k) len at'/\aDh G (t k) len:=by
 rcases h with⟨rfl,rfl,rfl⟩|⟨x,rfl,rfl⟩|⟨x,cc,e,u,rfl,D,I,F,v,J,y⟩
 .refine⟨(none,none),fun _=> .slice none 0 0,⟨fun o h=>by(cases h),fun b s h=>EY⟩,fun ρ k _=>EZ,fun _=>[],fun i j=>ER,fun G k _ _=>⟨⟨none,0,rfl,fun i j=>ER⟩,.inl ⟨rfl,rfl⟩⟩⟩
 .refine⟨(none,none),fun _=> .slice (some ⟨0,0,some 0⟩) 0 0,⟨fun o h=>by(cases h),fun b s h=>EY⟩,fun ρ k _=>?_,fun _=>[],fun i j=>ER,fun G k _ _=>⟨⟨some ⟨0,0,some 0⟩,0,rfl,fun i j=>ER⟩,.inr<|.inl ⟨rfl,rfl⟩⟩⟩;simp only[aZ];exact⟨trivial,trivial,x,cap,fun h=>ER,fun h=>ER,rfl⟩
 .refine⟨(some<|.cells (cc.toList.map san) e u false,some (x.block,(0,0))),fun k=> .slice (some ⟨k,x.off,none⟩) len cap,⟨fun o h b s m=>?_,fun b s m=>?_⟩,fun ρ k m=>?_,fun i=>(cc.toList.drop<|x.off+i*d.length).take d.length,y,fun G k A z=>?_⟩
  .cases h;cases m;refine⟨_,v,fun ρ=>⟨cc,rfl,?_,EV,fun h=>EY⟩⟩;rw[js,kt,e8 EV];exact ua _
  .cases m;exact(fj.1 v).1
  .exact⟨x.block,(0,0),cap,m,ba _,EV,by cases x;subst I;rfl⟩
  .refine⟨⟨_,_,rfl,fun i j=>⟨k,x.off,_,rfl,⟨A,e,u,false,z⟩,?_,?_⟩⟩,.inr<|.inr ⟨k,x.off,cap,_,e,u,rfl,D,F,A,z⟩⟩
   .rw[<-List.map_drop,<-List.map_take];exact Pk<|y i j
   .have:i*d.length<=len*d.length:=p9 _ ER;simp;omega
variable {G:Bg} {h:AH} {L:HL}
end Go.Ab
namespace Go.Ab
abbrev tx (l:List UInt8):Value:= .string ⟨l.toArray⟩
variable {G:Bg} {h:AH} {L:HL}
def G0 (e:EM):HP:=sp<|e.map fun d=>mk d ()
def tm {k:AH->Prop}:∀(j:EM) {h:AH},Hs G h (G0 j::L)->(∀o,Hs G o L->k o)->bQ (cQ j h) k:=by
 intro j;induction j with
 |nil=>intro h e m;exact kS (m _ e.tail)
 |cons d j r=>
  intro h e m;have e:Hs G h (mk d ()::((j.map fun d=>mk d ())++L)):=Hs.dT e;exact mH e fun h e=>r (Hs.kC e) m
theorem Q2 {d:Nat} {e:EM} (j:Hs G h (mk d ()::G0 e::L)):Hs G h (G0 (d::e)::L):=by
 have:=j.oN;exact Hs.kC (A:=mk d ()::e.map fun d=>mk d ()) ((Hs.dT this).cR (by
  simp_all))
def aKc (d:Hs G h L):Hs G h (G0 []::L):=Hs.kC (A:=[]) d
end Go.Ab
variable {k:Nat}
namespace Go.Is
def aTx:List (List UInt8×EL):=[([],[0,0,0]),([115,101,116],[1,2,0]),([97,100,100],[1,1,1]),([108,111,97,100],[1,1,0]),([115,116,111,114,101],[1,1,0]),([115,119,97,112],[1,1,0]),([102,101,110,99,101],[0,0,0]),
  ([119,111,114,108,100],[3,0,0]),([99,97,108,108],[4,1,1]),([106,117,109,112],[5,0,0]),([122,101,114,111],[1,5,0]),([104,97,108,116],[0,0,0])]
def tF:EK:=aTx.flatMap fun r=>tx r.1::r.2.map I
structure fM where
 op:Int
 a:Int
 b:Int
 c:Int
 deriving DecidableEq
abbrev HO:=List fM
def fM.enc (x:fM):EK:=[I x.op,I x.a,I x.b,I x.c]
def Mo (o:Nat):EL:=(aTx.getD o ([],[])).2
def isO (x:Int):Bool:=decide<|1<=x/\x<12
def D2 (kR v many:Int):Bool:=
 if kR=1 then decide (0<=v/\v<4) else if kR=2 then true else if kR=3 then decide (1<=v/\v<=3) else if kR=4 then decide (1<=v/\v<=4) else if kR=5 then decide (0<=v/\v<=many) else decide (v=0)
def fM.Yj (x:fM):EL:=[x.a,x.b,x.c]
def fM.Mm (x:fM):List (Int×Int):=(Mo x.op.toNat).zip x.Yj
def oD (x:fM) (many:Int):Int:=if isO x.op then(if(x.Mm.all fun p=>D2 p.1 p.2 many) then 0 else 10) else 15
def ckF (many:Int):HO->Nat->Int×Int
 |[],_=>(0,0)
 |x::l,i=>if oD x many≠0 then((i:Int)+1,oD x many) else ckF many l (i+1)
def pB (p:HO):Int×Int:=if 32<p.length then(0,11) else ckF p.length p 0
def o12 (h:k<12):k=0\/k=1\/k=2\/k=3\/k=4\/k=5\/k=6\/k=7\/k=8\/k=9\/k=10\/k=11:=ER
def aEz (h:k<12) (e:i<3):tF[k*4+(1+i*1)]?=some (I<|(Mo k).getD i 0):=by
 have d:i=0\/i=1\/i=2:=ER
 rcases o12 h with rfl|rfl|rfl|rfl|rfl|rfl|rfl|rfl|rfl|rfl|rfl|rfl<;>rcases d with rfl|rfl|rfl<;>rfl
def a8 (h:k<12):(Mo k).length=3:=by
 rcases o12 h with rfl|rfl|rfl|rfl|rfl|rfl|rfl|rfl|rfl|rfl|rfl|rfl<;>rfl
theorem Sv {x:fM} (h:isO x.op=true):x.Mm.length=3:=by
 have:=eo h;unfold fM.Mm;rw[List.length_zip,a8 ER];rfl
theorem Iy {x:fM} (h:isO x.op=true) (d:i<3):x.Mm[i]?=some ((Mo x.op.toNat).getD i 0,x.Yj.getD i 0):=by
 have:=eo h;have h1:=a8 (k:=x.op.toNat) ER;unfold fM.Mm;rw[List.getElem?_zip_eq_some];refine⟨?_,?_⟩;grind;grind[List.getElem?_eq_getElem,fM.Yj]
theorem jk {many:Int}:∀(l:HO) (i:Nat),(ckF many l i).2=0->∀x∈l,oD x many=0
 |[],_,_,x,d=>by simp at d
 |y::l,i,h,x,d=>by
  rw[ckF] at h;split at h;grind;rcases j2.1 d with rfl|d;omega;exact jk l (i+1) h x d
end Go.Is
namespace Go.At
open Go.Hm Go.Is
structure Ev where
 core:Int
 at':Int
 op:Int
 bG:Int
 cS:Int
 value:Int
 code:Int
 deriving DecidableEq
def Ev.enc (x:Ev):EK:=[I x.core,I x.at',I x.op,I x.bG,I x.cS,I x.value,I x.code]
def Jy:Ev:=⟨0,0,0,0,0,0,0⟩
structure aT where
 cX:Nat->Int
 at':Int
 bG:Int
 over:Bool
 prog:HO
def aT.core (s:aT):EK:=[I<|s.cX 0,I<|s.cX 1,I<|s.cX 2,I<|s.cX 3,I s.at',I s.bG,.bool s.over]
def hQ (p:HO) (a:Int):fM:=p.getD a.toNat ⟨0,0,0,0⟩
def Ga (p:HO) (a:Int):Bool:=if(p.length:Int)<=a then true else decide ((hQ p a).op=11)
def aT.iO (s:aT) (a:Int):aT:={s with at':=a,over:=Ga s.prog a}
def aT.dL (s:aT) (i v:Int):aT:={s with cX:=bJ s.cX i.toNat v}
def aT.Vh (s:aT) (v:Int):aT:={s with bG:=v}
def iP (mem:Nat->Ln) (w:Nat):Int:=if w % 2=0 then(mem<|w/2).1 else(mem<|w/2).2
def yV (mem:Nat->Ln) (w:Nat) (v:Int):Nat->Ln:=bJ mem (w/2)<|if w % 2=0 then(v,(mem<|w/2).2) else((mem<|w/2).1,v)
def F3 (mem:Nat->Ln) (g:Nat):Nat->Ln:=bJ (bJ mem (g*2) (0,0)) (g*2+1) (0,0)
structure AM where
 fA:bT
 aC:Nat->aT
 cK:EL
 mem:Nat->Ln
def AM.kI (m:AM) (i:Nat) (s:aT):AM:={m with aC:=bJ m.aC i s}
def AM.oS (m:AM) (mem:Nat->Ln):AM:={m with mem:=mem}
def AM.Dz (m:AM) (o:EL):AM:={m with cK:=o}
def vE (bG owner:Int):Bool:=if 0<=bG/\bG<=3/\0<=owner/\owner<=4 then decide (bG=0\/owner=bG\/owner=4) else false
def AM.R2 (m:AM) (bG cS:Int):Bool:=if 0<=cS/\cS<m.fA.aF*2 then vE bG (m.cK.getD (cS.toNat/4) 0) else false
def AM.fV (m:AM) (i:Nat) (x:fM):AM×Int×Int:=
 if m.R2 (m.aC i).bG ((m.aC i).cX x.b.toNat) then
  if x.op=3 then(m.kI i<|(m.aC i).dL x.a<|iP m.mem ((m.aC i).cX x.b.toNat).toNat,iP m.mem ((m.aC i).cX x.b.toNat).toNat,0)
  else if x.op=4 then(m.oS<|yV m.mem ((m.aC i).cX x.b.toNat).toNat<|(m.aC i).cX x.a.toNat,(m.aC i).cX x.a.toNat,0)
  else((m.oS<|yV m.mem ((m.aC i).cX x.b.toNat).toNat<|(m.aC i).cX x.a.toNat).kI i<|(m.aC i).dL x.a<|iP m.mem ((m.aC i).cX x.b.toNat).toNat,iP m.mem ((m.aC i).cX x.b.toNat).toNat,0)
 else(m,0,19)
def oE (call bG owner to:Int):Int×Bool×Int:=
 if ¬((0<=bG/\bG<=3)/\(0<=owner/\owner<=4)) then(0,false,10)
 else if call=1 then(if bG≠0 then(0,false,18) else if owner≠0 then(0,false,16) else if ¬(1<=to/\to<=3) then(0,false,1) else(to,true,0))
 else if call=2 then(if owner=0 then(0,false,16) else if bG≠0/\bG≠owner then(0,false,18) else(0,true,0))
 else if call=3 then(if bG=0\/bG≠owner then(0,false,18) else if ¬(1<=to/\to<=3)\/to=owner then(0,false,1) else(to,true,0))
 else if call=4 then(if owner=4 then(0,false,16) else if bG≠owner then(0,false,18) else(4,false,0))
 else(0,false,15)
def AM.call (m:AM) (call bG d to:Int) (busy:Bool):AM×Int:=
 if ¬(0<=d/\d<m.cK.length) then(m,10)
 else if busy then(m,17)
 else if(oE call bG (m.cK.getD d.toNat 0) to).2.2≠0 then(m,(oE call bG (m.cK.getD d.toNat 0) to).2.2)
 else((m.Dz<|m.cK.set d.toNat (oE call bG (m.cK.getD d.toNat 0) to).1).oS<|if(oE call bG (m.cK.getD d.toNat 0) to).2.1 then F3 m.mem d.toNat else m.mem,0)
def AM.iO (m:AM) (i:Nat) (a:Int):AM:=m.kI i<|(m.aC i).iO a
def AM.jJ (m:AM) (i:Nat) (x:fM) (busy:Bool):AM×Int×Int×Int×Int:=
 if x.op=1 then(m.kI i<|(m.aC i).dL x.a x.b,0,x.b,0,(m.aC i).at'+1)
 else if x.op=2 then(m.kI i<|(m.aC i).dL x.a<|wr<|(m.aC i).cX x.b.toNat+(m.aC i).cX x.c.toNat,0,wr<|(m.aC i).cX x.b.toNat+(m.aC i).cX x.c.toNat,0,(m.aC i).at'+1)
 else if x.op=3\/x.op=4\/x.op=5 then((m.fV i x).1,(m.aC i).cX x.b.toNat,(m.fV i x).2.1,(m.fV i x).2.2,(m.aC i).at'+1)
 else if x.op=7 then(if(m.aC i).bG=0 then(m.kI i<|(m.aC i).Vh x.a,0,x.a,0,(m.aC i).at'+1) else(m,0,x.a,18,(m.aC i).at'+1))
 else if x.op=8 then((m.call x.a (m.aC i).bG ((m.aC i).cX x.b.toNat) ((m.aC i).cX x.c.toNat) busy).1.kI i<|(m.aC i).dL x.b (m.call x.a (m.aC i).bG ((m.aC i).cX x.b.toNat) ((m.aC i).cX x.c.toNat) busy).2,(m.aC i).cX x.b.toNat,(m.aC i).cX x.c.toNat,(m.call x.a (m.aC i).bG ((m.aC i).cX x.b.toNat) ((m.aC i).cX x.c.toNat) busy).2,(m.aC i).at'+1)
 else if x.op=9 then(m,0,x.a,0,x.a)
 else if x.op=10 then(m,0,(m.aC i).cX x.a.toNat,0,if(m.aC i).cX x.a.toNat=0 then x.b else(m.aC i).at'+1)
 else(m,0,0,0,(m.aC i).at'+1)
def AM.step (m:AM) (core:Int) (busy:Bool):AM×Ev×Int:=
 if ¬(0<=core/\core<m.fA.aE) then(m,Jy,10)
 else if(m.aC core.toNat).over then(m,Jy,20)
 else
  let s:=m.aC core.toNat
  let x:=hQ s.prog s.at'
  let r:=m.jJ core.toNat x busy
  (r.1.iO core.toNat r.2.2.2.2,⟨core,s.at',x.op,s.bG,r.2.1,r.2.2.1,r.2.2.2.1⟩,0)
def aT.Ok (s:aT):Prop:=0<=s.at'/\s.at'<=32/\s.over=Ga s.prog s.at'/\s.prog.length<=32/\∀x∈s.prog,oD x s.prog.length=0
structure AM.Ok (m:AM):Prop where
 fA:m.fA.Ok
 aC:∀i:Nat,(i:Int)<m.fA.aE->(m.aC i).Ok
 cK:(m.cK.length:Int)=m.fA.bB
def zF:List (HO)->Int
 |[]=>0
 |p::l=>if(pB p).2≠0 then(pB p).2 else zF l
def vR (a b:Int) (l:EL):Bool:=l.all fun x=>decide<|a<=x/\x<=b
def Fv (C:bT) (ps:List (HO)) (ws os vs:EL):Int:=
 if ¬C.Ok then 10
 else if(ps.length:Int)≠C.aE\/(ws.length:Int)≠C.aE\/(os.length:Int)≠C.bB\/vs.length≠C.aF*2 then 1
 else if zF ps≠0 then zF ps
 else if ¬(vR 0 3 ws=true/\vR 0 4 os=true) then 10
 else 0
def tO (mem:Nat->Ln):EL->Nat->Nat->Ln
 |[],_=>mem
 |v::l,i=>tO (yV mem i v) l<|i+1
def yB (p:HO) (w:Int):aT:={cX:=fun _=>0,at':=0,bG:=w,over:=Ga p 0,prog:=p}
def mr (C:bT) (ps:List (HO)) (ws os vs:EL):AM:=⟨C,fun i=>yB (ps.getD i [])<|ws.getD i 0,os,tO sU vs 0⟩
def aEu (x:Ev):Bool:=decide<|x.code=17
theorem I2 {m:AM} {x:fM}:(m.fV i x).1.fA=m.fA/\(m.fV i x).1.cK=m.cK/\(∀j,j≠i->(m.fV i x).1.aC j=m.aC j)/\((m.fV i x).1.aC i).prog=(m.aC i).prog/\((m.fV i x).1.aC i).at'=(m.aC i).at':=by
 unfold AM.fV;repeat' split
 all_goals simp only[AM.kI,AM.oS,bR,aT.dL,true_and,and_true,CZ]
 all_goals grind[eA]
 all_goals simp
theorem j5 {m:AM} {c w g t:Int}:(m.call c w g t b).1.fA=m.fA/\(m.call c w g t b).1.cK.length=m.cK.length/\(m.call c w g t b).1.aC=m.aC:=by
 grind[AM.call,AM.Dz,AM.oS]
theorem Hp {m:AM} {x:fM}:(m.jJ i x b).1.fA=m.fA/\(m.jJ i x b).1.cK.length=m.cK.length/\(∀j,j≠i->(m.jJ i x b).1.aC j=m.aC j)/\((m.jJ i x b).1.aC i).prog=(m.aC i).prog:=by
 have e:=I2 (m:=m) (i:=i) (x:=x);have hc:=j5 (m:=m) (c:=x.a) (w:=(m.aC i).bG) (g:=(m.aC i).cX x.b.toNat) (t:=(m.aC i).cX x.c.toNat) (b:=b);unfold AM.jJ;repeat' split
 all_goals first
  |exact ES
  |(refine⟨hc.1,hc.2.1,fun j d=>?_,?_⟩
    .simp only[AM.kI,eA d,hc.2.2]
    .simp only[AM.kI,bR,aT.dL])
  |exact⟨rfl,rfl,fun _ _=>rfl,rfl⟩
  |(refine⟨rfl,rfl,fun j d=>?_,?_⟩
    .simp only[AM.kI,eA d]
    .simp only[AM.kI,bR,aT.dL,aT.Vh])
def Yq {x:fM} {n:Int} (h:oD x n=0):(1<=x.op/\x.op<12)/\D2 ((Mo x.op.toNat).getD 0 0) x.a n=true/\D2 ((Mo x.op.toNat).getD 1 0) x.b n=true/\D2 ((Mo x.op.toNat).getD 2 0) x.c n=true:=by
 unfold oD at h;split at h;rename_i e;split at h;rename_i j;have d:=lP.1 j;refine⟨eo e,?_,?_,?_⟩;exact d _<|fm<|Iy e (i:=0) ER;exact d _<|fm<|Iy e (i:=1) ER;exact d _<|fm<|Iy e (i:=2) ER;cases h;cases h
structure aMc (x:fM) (n:Int):Prop where
 r1:x.op=1\/x.op=2\/x.op=3\/x.op=4\/x.op=5\/x.op=10->0<=x.a/\x.a<4
 r2:x.op=2\/x.op=3\/x.op=4\/x.op=5\/x.op=8->0<=x.b/\x.b<4
 r3:x.op=2\/x.op=8->0<=x.c/\x.c<4
 p1:x.op=9->0<=x.a/\x.a<=n
 p2:x.op=10->0<=x.b/\x.b<=n
def Jj {x:fM} {n:Int} (h:oD x n=0):aMc x n:=by
 obtain⟨_,h1,d,j⟩:=Yq h;refine⟨fun e=>?_,fun e=>?_,fun e=>?_,fun e=>?_,fun e=>?_⟩;rcases e with e|e|e|e|e|e<;>rw[e] at h1<;>exact eo h1;rcases e with e|e|e|e|e<;>rw[e] at d<;>exact eo d;rcases e with e|e<;>rw[e] at j<;>exact eo j;rw[e] at h1;exact eo h1;rw[e] at d;exact eo d
theorem Ez {p:HO} {a:Int} (h:Ga p a=false):a<p.length:=by
 grind[Ga]
theorem Ec {p:HO} {a:Int} (d:0<=a) (h:a<p.length):hQ p a∈p:=by
 grind[hQ,List.getElem?_eq_getElem,List.getElem_mem]
def Uf {m:AM} {x:fM} {n:Int} (d:aMc x n) (e:0<=(m.aC i).at') (j:(m.aC i).at'<n):0<=(m.jJ i x b).2.2.2.2/\(m.jJ i x b).2.2.2.2<=n:=by
 unfold AM.jJ;repeat' split
 all_goals first
  |(have:=d.p1 ‹_›;omega)
  |skip
 all_goals simp only[]
 all_goals first
  |omega
  |(have:=d.p2 ‹_›;omega)
def aF3 {m:AM} {c:Int}:(m.step c b).1.fA=m.fA:=by
 unfold AM.step;split;rfl;split;rfl;exact(Hp (m:=m)).1
theorem aIu {m:AM} (d:m.Ok) (c:Int) (b:Bool):(m.step c b).1.Ok:=by
 unfold AM.step;split;exact d;split;exact d;rename_i v;obtain⟨n,rfl⟩:∃n:Nat,c=n:=ES;have r:=d.aC n ER;simp only[aP] at v ⊢;obtain⟨t,A,D,F⟩:=Hp (m:=m) (i:=n) (x:=hQ (m.aC n).prog (m.aC n).at') (b:=b);have o:=Ez (by rw[<-r.2.2.1];grind);have z:=Uf (b:=b) (Jj<|r.2.2.2.2 _<|Ec r.1 o) r.1 o;refine⟨?_,fun j y=>?_,?_⟩;show(AM.jJ m n _ b).1.fA.Ok;rw[t];exact d.fA;by_cases e:j=n;have u:((m.jJ j _ b).1.iO j (m.jJ j (hQ (m.aC j).prog (m.aC j).at') b).2.2.2.2).aC j=((m.jJ j (hQ (m.aC j).prog (m.aC j).at') b).1.aC j).iO _:=bR;grind[aT.Ok,aT.iO];have u:((m.jJ n (hQ (m.aC n).prog (m.aC n).at') b).1.iO n (m.jJ n (hQ (m.aC n).prog (m.aC n).at') b).2.2.2.2).aC j=(m.jJ n _ b).1.aC j:=eA e;rw[u,D j e];exact d.aC j (by rw[<-t];exact y);show(((AM.jJ m n _ b).1.cK.length:Nat):Int)=(AM.jJ m n _ b).1.fA.bB;rw[t,A];exact d.cK
end Go.At
variable {no:Int}
namespace Go.Ct
open Go.Hm
variable {S:Nat->HN}
variable {ways:Nat} {s:iJ} {C:bT} {core:Int}
def sG (x to:Int):Int:=if to=1 then Wm x else 0
def cI (n:Nat) (S:Nat->HN) (no:Int):tJ×Int:=if no<0 then(tJ.zero,10) else match get no (S<|cB n no) with|some x=>(x,0)|none=>(tJ.zero,12)
def wI (n ways:Nat) (S:Nat->HN) (no:Int):Option Th:=match get no (S<|cB n no) with
 |some _=>none
 |none=>if(S<|cB n no).length<ways then none else(S<|cB n no)[0]?
def lT (n:Nat) (S:Nat->HN) (no:Int):Nat->HN:=if no<0 then S else bJ S (cB n no) (xI no<|S<|cB n no)
def nM (n ways:Nat) (S:Nat->HN) (no:Int) (x:tJ):(Nat->HN)×Int:=
 if(xI no<|S<|cB n no).length>=ways then(bJ S (cB n no)<|xI no<|S<|cB n no,11) else(bJ S (cB n no)<|xI no (S<|cB n no)++[(no,x)],0)
theorem aVx {l:HN} (h:l.length<=4):(xI no l).length<=4:=by grind[Ij]
theorem aHa (hb:∀i,(S i).length<=4):∀i,(lT n S no i).length<=4:=by
 intro i;unfold lT;grind[bJ,aVx]
def H7 (n ways:Nat) (S:Nat->HN) (no:Int):Nat->HN:=if(cI n S no).2=0 then(nM n ways (lT n S no) no (cI n S no).1).1 else lT n S no
def aFa (n ways:Nat) (S:Nat->HN) (no:Int):Int:=if(cI n S no).2=0 then(nM n ways (lT n S no) no (cI n S no).1).2 else(cI n S no).2
def yJ (C:bT) (l:Int):Bool:=decide<|0<=l/\l<C.aF
def oD (n:Nat) (S:Nat->HN) (l d:Int) (w:Bool):Bool:=decide ((cI n S l).2=0)&&decide ((cI n S l).1.w=d)&&yZ (cI n S l).1.st w
def sP (C:bT) (S:Nat->HN) (l at' d:Int) (w:Bool):Int:=
 if yJ C l=false then 10 else if at'<0 then 10 else if at'>=2 then 10 else if oD C.bL.toNat S l d w=false then 16 else 0
def rR (C:bT) (s:iJ) (l at' d:Int):iJ:=if sP C s.S l at' d false=0 then {s with S:=H7 C.bL.toNat C.ways.toNat s.S l} else s
def aM7 (d:Ln) (at' v:Int):Ln:=if at'=0 then(v,d.2) else(d.1,v)
def zL (n:Nat) (S:Nat->HN) (l at' v:Int):tJ:=⟨4,(cI n S l).1.w,aM7 (cI n S l).1.d at' v⟩
def jH (C:bT) (s:iJ) (l at' d v:Int):iJ:=if sP C s.S l at' d true=0 then {s with S:=(nM C.bL.toNat C.ways.toNat s.S l<|zL C.bL.toNat s.S l at' v).1} else s
def Bd (s:iJ):Prop:=∀i,(s.S i).length<=4
theorem pW (hC:C.Ok):0<C.bL.toNat/\C.bL.toNat<=8/\0<C.ways.toNat/\C.ways.toNat<=4:=by grind[bT.Ok]
theorem P7 {l at' d:Int} {w:Bool} (h:sP C S l at' d w=0):(0<=l/\l<C.aF)/\(at'=0\/at'=1)/\(cI C.bL.toNat S l).2=0/\yZ (cI C.bL.toNat S l).1.st w=true:=by
 unfold sP at h;split at h;omega;split at h;omega;split at h;omega;split at h;omega;grind[yJ,oD]
def tM (core:Int) (s:iJ) (l w:Int) (wr:Bool) (ns:HM):iJ×HM×Int:=
 ({s with al:=l,aw:=wr,pY:=true},ns++[⟨if wr then 2 else 1,core,l,w,0,0,0,false,0⟩],0)
def Co (C:bT) (core:Int) (s:iJ) (l w:Int) (wr:Bool):iJ×HM×Int:=
 match wI C.bL.toNat C.ways.toNat s.S l with
 |none=>tM core s l w wr []
 |some v=>
  if s.uF then(s,[],11) else
  if(cI C.bL.toNat s.S v.1).2≠0 then({s with S:=lT C.bL.toNat s.S v.1},[],(cI C.bL.toNat s.S v.1).2) else
  tM core {s with S:=lT C.bL.toNat s.S v.1,gl:=v.1,gc:=(cI C.bL.toNat s.S v.1).1,uF:=true} l w wr
   [⟨3,core,v.1,(cI C.bL.toNat s.S v.1).1.w,0,(cI C.bL.toNat s.S v.1).1.d.1,(cI C.bL.toNat s.S v.1).1.d.2,qE (cI C.bL.toNat s.S v.1).1.st,0⟩]
def gM (C:bT) (core:Int) (s:iJ) (l w:Int) (wr:Bool):iJ×HM×Int:=
 if yJ C l=false then(s,[],10) else if s.pY then(s,[],17) else if s.uF=true/\s.gl=l then(s,[],16) else
 if(cI C.bL.toNat s.S l).2=0/\yZ (cI C.bL.toNat s.S l).1.st wr=true then(s,[],13) else Co C core s l w wr
abbrev Tk:=iJ×HM×Int
def lQ (C:bT) (s:iJ) (n:aI):tJ:=⟨n.state,n.bG,if(cI C.bL.toNat s.S n.bA).2=0 then(cI C.bL.toNat s.S n.bA).1.d else(n.d0,n.d1)⟩
def yK (C:bT) (core:Int) (s:iJ) (n:aI):Tk:=
 if s.pY=false then(s,[],16) else if s.al≠n.bA then(s,[],16) else
 if(nM C.bL.toNat C.ways.toNat s.S n.bA<|lQ C s n).2≠0 then({s with S:=(nM C.bL.toNat C.ways.toNat s.S n.bA<|lQ C s n).1},[],(nM C.bL.toNat C.ways.toNat s.S n.bA<|lQ C s n).2) else
 ({s with S:=(nM C.bL.toNat C.ways.toNat s.S n.bA<|lQ C s n).1,al:=0,aw:=false,pY:=false},[⟨4,core,n.bA,0,0,0,0,false,0⟩],0)
def Ll (s:iJ) (n:aI):Tk:=if s.pY=false then(s,[],16) else if s.al≠n.bA then(s,[],16) else({s with al:=0,aw:=false,pY:=false},[],0)
def uK (s:iJ) (n:aI):Tk:=if s.uF=false then(s,[],12) else if s.gl≠n.bA then(s,[],12) else({s with gl:=0,gc:=tJ.zero,uF:=false},[],0)
def tY (core:Int) (n:aI) (x:tJ):aI:=if K6 x.st then⟨5,core,n.bA,0,sG x.st n.state,x.d.1,x.d.2,qE x.st,0⟩ else⟨5,core,n.bA,0,sG x.st n.state,0,0,false,0⟩
def tT (C:bT) (core:Int) (s:iJ) (n:aI):Tk:=
 if n.state≠1/\n.state≠0 then(s,[],10) else
 if(cI C.bL.toNat s.S n.bA).2=0 then
  ({s with S:=if sG (cI C.bL.toNat s.S n.bA).1.st n.state=0 then lT C.bL.toNat s.S n.bA else(nM C.bL.toNat C.ways.toNat s.S n.bA {(cI C.bL.toNat s.S n.bA).1 with st:=sG (cI C.bL.toNat s.S n.bA).1.st n.state}).1},[tY core n (cI C.bL.toNat s.S n.bA).1],0)
 else if s.uF=false then(s,[⟨5,core,n.bA,0,0,0,0,false,0⟩],0) else if s.gl≠n.bA then(s,[⟨5,core,n.bA,0,0,0,0,false,0⟩],0) else
  ({s with gc:={s.gc with st:=sG s.gc.st n.state}},[tY core n s.gc],0)
def jU (C:bT) (core:Int) (s:iJ) (n:aI):Tk:=
 if n.kind=8 then(if yJ C n.bA=false then(s,[],10) else yK C core s n)
 else if n.kind=9 then(if yJ C n.bA=false then(s,[],10) else Ll s n)
 else if n.kind=10 then(if yJ C n.bA=false then(s,[],10) else uK s n)
 else if n.kind=11 then(if yJ C n.bA=false then(s,[],10) else tT C core s n)
 else(s,[],15)
def Vk (core:Int) (n:aI):aI:=⟨5,core,n.bA,0,0,0,0,false,0⟩
structure Sts (n:Nat) (s:iJ):Prop where
 aVv:∀l,(cI n s.S l).2=0->0<=(cI n s.S l).1.st/\(cI n s.S l).1.st<5
 yU:s.uF=true->0<=s.gc.st/\s.gc.st<5
theorem Fl {l:HN}:(xI no l).Sublist l:=by
 induction l with
 |nil=>exact List.Sublist.refl _
 |cons t l d=>
  grind[xI]
theorem Ng {l:HN} (h:(l.map (·.1)).Nodup):no∉(xI no l).map (·.1):=by
 induction l with
 |nil=>simp[xI]
 |cons t l d=>
  grind[List.nodup_cons,xI]
theorem X0 {l:HN} {x:tJ} (h:get no l=some x):(no,x)∈l:=by
 unfold Go.Ct.get at h;cases hf:l.find? _ with
 |none=>rw[hf] at h;cases h
 |some t=>
  grind
theorem re {l:HN} (h:no∉l.map (·.1)):get no l=none:=by
 grind[Go.Ct.get]
theorem aC5 {l:HN} {x:tJ} (h:no∉l.map (·.1)):get no (l++[(no,x)])=some x:=by
 grind[re,Go.Ct.get]
structure qA (ways:Nat) (l:HN):Prop where
 len:l.length<=ways
 st:∀t∈l,1<=t.2.st/\t.2.st<=4
 nd:(l.map (·.1)).Nodup
theorem qA.xI {ways:Nat} {l:HN} (h:qA ways l):qA ways (Go.Ct.xI no l):=
 ⟨hI Fl.length_le h.len,fun t d=>h.st t<|Fl.mem d,(Fl.map _).nodup h.nd⟩
theorem qA.app {ways:Nat} {l:HN} {x:tJ} (h:qA ways l) (e:l.length<ways) (m:1<=x.st/\x.st<=4) (j:no∉l.map (·.1)):qA ways (l++[(no,x)]):=
 ⟨EW,fun t d=>by
  rcases cL.1 d with h1|h1;exact h.st t h1;grind,by
  rw[k8,CN];refine⟨h.nd,EV,?_⟩;grind⟩
def Pl (n:Nat) (S:Nat->HN):Prop:=∀i t,t∈S i->0<=t.1/\cB n t.1=i
theorem Nz (h:Pl n S):Pl n (lT n S no):=by
 intro i t d;unfold lT at d;split at d;exact h i t d;unfold bJ at d;split at d;rename_i e;subst e;exact h _ t<|Fl.mem d;exact h i t d
theorem Om {ways:Nat} {x:tJ} (j:0<=no) (h:Pl n S):Pl n (nM n ways S no x).1:=by
 intro i t d;unfold nM at d;split at d;unfold bJ at d;dsimp only at d;split at d;rename_i e;subst e;exact h _ t<|Fl.mem d;exact h i t d;unfold bJ at d;dsimp only at d;split at d;rename_i e;subst e;rcases cL.1 d with h1|h1;exact h _ t<|Fl.mem h1;grind;exact h i t d
structure mT (n ways:Nat) (s:iJ):Prop where
 bL:∀i,qA ways<|s.S i
 yU:s.uF=true->0<=s.gc.st/\s.gc.st<=4
 pl:Pl n s.S
theorem xA (h:∀i,qA ways<|S i):∀i,qA ways (lT n S no i):=by
 intro i;unfold lT;split;exact h i;unfold bJ;split;exact(h _).xI;exact h i
def Ea {x:tJ} (d:1<=x.st/\x.st<=4) (h:∀i,qA ways<|S i):∀i,qA ways ((nM n ways S no x).1 i):=by
 intro i;unfold nM;split;unfold bJ;dsimp only;split;exact(h _).xI;exact h i;unfold bJ;dsimp only;split;exact((h<|cB n no).xI).app ER d (Ng (h _).nd);exact h i
theorem Nl {l:Int} (h:∀i,qA ways<|S i) (d:(cI n S l).2=0):1<=(cI n S l).1.st/\(cI n S l).1.st<=4:=by
 unfold cI at d ⊢;split at d;cases d;rename_i e;rw[aXf e];cases hg:get l _ with
 |none=>grind
 |some x=>exact(h _).st _ (X0 hg)
theorem aH7 (h:∀i,qA ways<|S i):∀i,qA ways (H7 n ways S no i):=by
 intro i;unfold H7;split;rename_i d;exact Ea (Nl h d) (xA h) i;grind[xA]
theorem aDr (d:(cI n S no).2=0):0<=no:=by
 grind[cI]
theorem aNm (h:Pl n S):Pl n (H7 n ways S no):=by
 grind[H7,Om,aDr,Nz]
def mT.bd (h:mT n ways s) (d:ways<=4):Bd s:=fun i=>hI (h.bL i).len d
def mT.sts (h:mT n ways s):Sts n s:=⟨fun l e=>by have:=Nl h.bL e;omega,fun d=>by have:=h.yU d;omega⟩
def aCr:mT n ways iJ.lK:=⟨fun _=>⟨AK _,(fun _ h=>EY),List.nodup_nil⟩,(fun h=>EY),fun _ _ h=>EY⟩
abbrev kK (C:bT) (s:iJ):Prop:=mT C.bL.toNat C.ways.toNat s
def x9 {l w:Int} {wr:Bool} (h:kK C s):kK C (gM C core s l w wr).1:=by
 unfold gM;split;exact h;split;exact h;split;exact h;split;exact h;unfold Co;split;exact⟨h.bL,h.yU,h.pl⟩;split;exact h;split;exact⟨xA h.bL,h.yU,Nz h.pl⟩;rename_i v _ _ d;exact⟨xA h.bL,fun _=>(by have:=Nl h.bL HD;exact⟨by show 0<=(cI C.bL.toNat s.S v.1).1.st;omega,this.2⟩),Nz h.pl⟩
theorem de {x to:Int} (d:0<=x/\x<=4):0<=sG x to/\sG x to<=4:=by
 grind[sG,Wm]
variable {nt:aI}
theorem yk (m:nt.kind=8->1<=nt.state/\nt.state<=4) (h:kK C s):kK C (jU C core s nt).1:=by
 unfold jU;split;rename_i e;split;exact h;have d:=(eo (by grind:yJ C nt.bA=true)).1;unfold yK;split;exact h;split;exact h;split;exact⟨Ea (m e) h.bL,h.yU,Om d h.pl⟩;exact⟨Ea (m e) h.bL,h.yU,Om d h.pl⟩
 .split;split;exact h;unfold Ll;split;exact h;split;exact h;exact⟨h.bL,h.yU,h.pl⟩
  .split;split;exact h;unfold uK;split;exact h;split;exact h;exact⟨h.bL,ES,h.pl⟩
   .split
    .split;exact h
     .unfold tT;split;exact h
      .split
       .rename_i j;have o:=Nl h.bL j;refine⟨?_,h.yU,?_⟩;rotate_left;split;exact Nz h.pl;exact Om (aDr j) h.pl;split;exact xA h.bL;exact Ea (by have:=de (x:=(cI C.bL.toNat s.S nt.bA).1.st) (to:=nt.state) ER;grind) h.bL
       split;exact h;split;exact h;exact⟨h.bL,(fun _=>de<|h.yU ES),h.pl⟩
    exact h
def Kr {l a d:Int} (h:kK C s):kK C (rR C s l a d):=by
 unfold rR;split;exact⟨aH7 h.bL,h.yU,aNm h.pl⟩;exact h
theorem qo {l a e v:Int} (h:kK C s):kK C (jH C s l a e v):=by
 unfold jH;split;rename_i d;exact⟨Ea (by simp[zL]) h.bL,h.yU,Om (P7 d).1.1 h.pl⟩;exact h
theorem aDq {l w:Int} {wr:Bool}:(gM C core s l w wr).2.1.length<=2:=by
 grind[gM,Co,tM]
theorem aGh:(jU C core s nt).2.1.length<=1:=by
 grind[jU,yK,Ll,uK,tT]
end Go.Ct
namespace Go.Nt
open Go.Hm
def oa:List (List UInt8×Int×EL):=[
 ([],0,[0,0,0,0,0,0,0]),
  ([103,101,116,115],0,[1,2,3,0,0,0,0]),
  ([103,101,116,109],0,[1,2,3,0,0,0,0]),
  ([112,117,116],0,[1,2,4,8,9,10,0]),
  ([100,111,110,101],1,[1,2,0,0,0,0,0]),
  ([114,101,112,108,121],1,[1,2,5,8,9,10,11]),
  ([119,97,108,107],0,[1,12,0,0,0,0,0]),
  ([100,114,111,112,112,101,100],1,[1,13,0,0,0,0,0]),
  ([103,114,97,110,116],2,[1,2,4,6,8,9,0]),
  ([110,97,99,107],2,[1,2,11,0,0,0,0]),
  ([112,117,116,97,99,107],2,[1,2,0,0,0,0,0]),
  ([112,114,111,98,101],3,[1,2,7,0,0,0,0]),
  ([119,97,108,107,101,100],2,[1,8,9,12,0,0,0]),
  ([100,114,111,112],3,[1,13,0,0,0,0,0])]
def aLv (r:List UInt8×Int×EL):EK:= .string ⟨r.1.toArray⟩::I r.2.1::r.2.2.map I
def Bp:EK:=oa.flatMap aLv
def aCk (k:Nat):EL:=(oa.getD k ([],0,[])).2.2
def Tm (k:Nat):Int:=(oa.getD k ([],0,[])).2.1
def ws (arr:EL):Nat->Nat->EL
 |0,_=>[]
 |f+1,i=>if arr.getD i 0=0 then [] else arr.getD i 0::ws arr f (i+1)
def Hw (k:Nat):EL:=ws (aCk k) 7 0
def k14 (h:k<14):k=0\/k=1\/k=2\/k=3\/k=4\/k=5\/k=6\/k=7\/k=8\/k=9\/k=10\/k=11\/k=12\/k=13:=ER
def jb (h:k<14):Bp[k*9+1]?=some (I<|Tm k):=by
 rcases k14 h with rfl|rfl|rfl|rfl|rfl|rfl|rfl|rfl|rfl|rfl|rfl|rfl|rfl|rfl<;>rfl
def aA2 (h:k<14):(Bp.drop<|k*9+2).take 7=(aCk k).map I:=by
 rcases k14 h with rfl|rfl|rfl|rfl|rfl|rfl|rfl|rfl|rfl|rfl|rfl|rfl|rfl|rfl<;>rfl
def te (h:k<14):(aCk k).length=7:=by
 rcases k14 h with rfl|rfl|rfl|rfl|rfl|rfl|rfl|rfl|rfl|rfl|rfl|rfl|rfl|rfl<;>rfl
theorem y8:Bp.length=126:=GW
def aK5 (h:k<14):∀f∈Hw k,1<=f/\f<=13:=by
 rcases k14 h with rfl|rfl|rfl|rfl|rfl|rfl|rfl|rfl|rfl|rfl|rfl|rfl|rfl|rfl<;>decide
def f13 {f:Int} (h:1<=f/\f<=13):f=1\/f=2\/f=3\/f=4\/f=5\/f=6\/f=7\/f=8\/f=9\/f=10\/f=11\/f=12\/f=13:=ER
def Sq (k:Int):Prop:=1<=k/\k<14
instance (k:Int):Decidable (Sq k):=by unfold Sq;infer_instance
def nX (n:aI) (f:Int):Int:=
 if f=1 then n.core else if f=2 then n.bA else if f=3\/f=4 then n.bG else if f=5\/f=6\/f=7 then n.state else if f=8 then n.d0 else if f=9 then n.d1
 else if f=10 then(if n.Cw=true then 1 else 0) else n.no
def Mw (n:aI) (f v:Int):aI:=
 if f=1 then {n with core:=v} else if f=2 then {n with bA:=v} else if f=3\/f=4 then {n with bG:=v} else if f=5\/f=6\/f=7 then {n with state:=v} else if f=8 then {n with d0:=v} else if f=9 then {n with d1:=v}
 else if f=10 then {n with Cw:=decide (v≠0)} else {n with no:=v}
def Iz (C:bT) (f v:Int):Prop:=
 if f=1 then 0<=v/\v<C.aE else if f=2 then 0<=v/\v<C.aF else if f=3 then 0<=v/\v<=3 else if f=4 then 0<=v/\v<=4 else if f=5 then 0<=v/\v<=4
 else if f=6 then v=1\/v=2\/v=4 else if f=7 then v=0\/v=1 else if f=10\/f=11 then v=0\/v=1 else if f=12 then 0<=v/\v<20 else if f=13 then 0<=v/\v<C.bB else True
instance (C:bT) (f v:Int):Decidable (Iz C f v):=by unfold Iz;infer_instance
def mB (C:bT) (n:aI):EL->aI->Bool×aI
 |[],a=>(true,a)
 |f::d,a=>if Iz C f (nX n f) then mB C n d (Mw a f<|nX n f) else(false,a)
def tI (k:Int):aI:={aI.zero with kind:=k}
def mZ (C:bT) (n:aI):Int:=
 if Sq n.kind then(if C.Ok then(if(mB C n (Hw n.kind.toNat)<|tI n.kind).1=true/\(mB C n (Hw n.kind.toNat)<|tI n.kind).2=n then 0 else 10) else 10) else 15
end Go.Nt
