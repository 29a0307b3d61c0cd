/- A part of the proof. -/
import Derived.Test.YtcjlkjeeifemhaaGreatDoorR8
import Derived.Test.YtcjlkjeeifemhaaGreatDoorR6
import Derived.Test.YtcjlkjeeifemhaaGreatDoorR7
import Derived.Lib.ItoaNum
import Derived.Lib.Bytes
import Derived.Lib.AtoiAll
import Derived.Lib.Bytealg
import Derived.Lib.Join
section
namespace Go.Ab
noncomputable section
variable {P:Program} {K:FuncId->List Value->Option iJ}
def wLV (P:Program) (a:Ek) (h:AH) (q:Value->Prop):Op->Prop
 |.call c=>(match c.callee with
  |.builtin b=>(match gR b with
   |true=>V6 P a c.args.toList fun l=>wBI P h (fun v _=>q v) c.argTypes b l
   |false=>hF)
  |_=>hF)
 |op=>wL P a h q op
theorem aEm {a:Ek} {env:List Value} (m:eW a env) {h:AH} {q:Value->Prop} {op:Op} (d:wLV P a h q op):gB op=true/\∃v,dZ P (cQ P env) h op=some v/\q v:=by
 unfold wLV at d;split at d;split at d;rename_i o;split at d;rename_i r;obtain⟨v,t,e,g⟩:=yI (aDt (B8 m d));exact⟨by simp[gB,o,r],v,by simp only[dZ,o,r,if_true,e];rfl,g⟩;cases d;cases d
 .obtain⟨j,v,e,g⟩:=Bv (aI2 m d);refine⟨?_,v,?_,g⟩
  .cases op<;>first|(simp[gB,j];done)|(simp[kindOf] at j)
  cases op<;>first|exact e|(simp[kindOf] at j)
structure WR where
 a:Ek
 h:AH
 v:Value
 ran:Bool
def wDO (P:Program) (K:FuncId->List Value->Option iJ) (i r:Nat) (a:Ek) (h:AH) (q:Value->AH->Prop) (op:Op):Prop:=
 match gB op with
 |true=>wLV P a h (fun v=>q v h) op
 |false=>(match kindOf op with
  |.alloc=>(match i with
   |0=>wA P a (kK h r) (jJ h r) q op
   |i=>wA P a (kK h (r+i)) (jJ h (r+i)) q op)
  |_=>wH P K a h q op)
theorem aEg {all:List Oper} {r i:Nat} {a:Ek} {env:List Value} (A:eW a env) {h:AH} {q:Value->AH->Prop} {o:Oper} (d:dO ⟨all⟩ env o=some true) (t:wDO P K i r a h q o.op):
  ∃n v m,eU P (run P K n) all r i env h o=some (v,m)/\q v m:=by
 unfold wDO at t
 unfold eU
 simp only[d]
 split at t
 .rename_i z;obtain⟨_,v,u,w⟩:=aEm A t;exact⟨0,v,h,by simp[z,u],w⟩
 .rename_i z;split at t
  .rename_i B;have y:∀{j:Nat},wA P a (kK h j) (jJ h j) q o.op->j=r+i->∃n v m,eU P (run P K n) all r i env h o=some (v,m)/\q v m:=by
    intro j E e;subst e;obtain⟨_,b,f,u,w⟩:=Bs (aJ1 A (fun W e l n c k D=>D) E);exact⟨0,_,_,by simp[eU,d,z,B,u],w⟩
   have:=(show∃n v m,eU P (run P K n) all r i env h o=some (v,m)/\q v m by
    split at t;exact y t rfl;exact y t rfl)
   unfold eU at this
   simpa only[d] using this
  .obtain⟨B,n,v,m,u,w⟩:=uS (fun g=>rfl) (aEt A t);refine⟨n,v,m,?_,w⟩;have:(kindOf o.op==Kind.alloc)=false:=by rcases B with h|h<;>rw[h]<;>rfl
   simp[this,z,u]
def Tj:List (Nat×Nat)->Nat->Bool
 |[],_=>false
 |(a,_)::l,i=>(match Nat.beq a i with
  |true=>true
  |false=>Tj l i)
def wMd (d:List (Nat×Nat)) (i:Nat) (a:Ek) (rs:List WR) (k:(AH->Value->Bool->(List WR->Prop)->Prop)->Prop):Prop:=match d with
 |[]=>hP (k fun _ _ _ q=>q rs)
 |d=>(match Tj d i with
  |true=>k fun h v r q=>q (⟨a,h,v,r⟩::rs)
  |false=>k fun h _ _ q=>q (⟨[],h,undef,true⟩::rs))
def Rl (d:List (Nat×Nat)):List WR->List WR->Prop
 |[],[]=>True
 |x::e,y::gs=>(x=y\/Tj d gs.length=false/\x.h=y.h)/\Rl d e gs
 |_,_=>False
theorem aDo {g:List (Nat×Nat)} {a:Ek} {rs gs:List WR} {i:Nat} {k:(AH->Value->Bool->(List WR->Prop)->Prop)->Prop} (t:gs.length=i) (o:g≠[]->Rl g rs gs) (d:wMd g i a rs k):
  ∃R,k R/\∀h v r q,R h v r q->∃m,(g≠[]->Rl g m (⟨a,h,v,r⟩::gs))/\q m:=by
 unfold wMd at d
 split at d
 .exact⟨_,d,fun h v r q j=>⟨rs,fun e=>absurd rfl e,j⟩⟩
 .split at d
  .exact⟨_,d,fun h v r q j=>⟨⟨a,h,v,r⟩::rs,fun e=>⟨.inl rfl,o e⟩,j⟩⟩
  .rename_i u;exact⟨_,d,fun h v r q j=>⟨⟨[],h,undef,true⟩::rs,fun e=>⟨.inr ⟨by rw[t];exact u,rfl⟩,o e⟩,j⟩⟩
theorem yc {o:List (Nat×Nat)}:∀{rs gs:List WR},Rl o rs gs->rs.length=gs.length/\∀(j:Nat) (x y:WR),rs.reverse[j]?=some x->gs.reverse[j]?=some y->x=y\/Tj o j=false/\x.h=y.h
 |[],[],_=>⟨rfl,fun j x y z=>by simp at z⟩
 |x::rs,y::gs,h=>by
  obtain⟨r,t⟩:=h;obtain⟨m,v⟩:=yc t;refine⟨by simp[m],fun j u w e d=>?_⟩;rw[List.reverse_cons] at e d;rcases Nat.lt_trichotomy j gs.length with g|g|g;rw[List.getElem?_append_left (by simpa [m] using g)] at e;rw[List.getElem?_append_left (by simpa using g)] at d;exact v j u w e d;subst g;rw[List.getElem?_append_right (by simp[m])] at e;rw[List.getElem?_append_right (by simp)] at d;simp[m] at e d;subst e;subst d;exact r;rw[List.getElem?_eq_none (by simp;omega)] at d;cases d
def wDF (P:Program) (K:FuncId->List Value->Option iJ) (M n:Nat) (oO:Nat->Option Tmp) (r:Nat) (g:List (Nat×Nat)) (o:Oper) (e:Nat->Ek->AH->List WR->(List WR->Ek->AH->Prop)->Prop) (i:Nat) (a:Ek) (h:AH) (rs:List WR) (q:List WR->Ek->AH->Prop):Prop:=match o with
 |⟨dst,op,_,_,_,guard⟩=>nK (i+1) fun j=>wG oO a guard
  (fun a=>wMd g i a rs fun R=>jc (ups op) a fun d=>(match di a op with
   |some x=>wKn M op dst a x fun k=>vI P a x fun v=>Rj n d dst v k fun d=>R h v true fun rs=>e j d h rs q
   |none=>sb M op dst fun k=>wDO P K i r a h (fun v m=>Rj n d dst v k fun d=>R h v true fun rs=>e j d m rs q) op))
  (fun a=>wMd g i a rs fun R=>Rj n a dst undef .sk fun d=>R h undef false fun rs=>e j d h rs q)
def wDT (P:Program) (K:FuncId->List Value->Option iJ) (M n:Nat) (oO:Nat->Option Tmp) (r:Nat) (d:List (Nat×Nat)) (os:List Oper):Nat->Ek->AH->List WR->(List WR->Ek->AH->Prop)->Prop:=
 List.rec (fun _ a h g q=>q g a h) (fun o _ e=>wDF P K M n oO r d o e) os
def WOk (all:List Oper) (rs:List WR) (es:List (List Value)):Prop:=rs.length=es.length/\∀(i:Nat) (o:Oper) (x:WR) (e:List Value),all[i]?=some o->rs[i]?=some x->es[i]?=some e->eW x.a e/\dO ⟨all⟩ e o=some x.ran
theorem WOk.snoc {all:List Oper} {rs:List WR} {es:List (List Value)} (r:WOk all rs es) {o:Oper} {x:WR} {e:List Value} (w:all[rs.length]?=some o) (u:eW x.a e) (v:dO ⟨all⟩ e o=some x.ran):WOk all (rs++[x]) (es++[e]):=by
 refine⟨by simp[r.1],fun i y z t d g j=>?_⟩;rcases Nat.lt_trichotomy i rs.length with m|m|m;rw[List.getElem?_append_left m] at g;rw[List.getElem?_append_left (r.1▸m)] at j;exact r.2 i y z t d g j;subst m;rw[w] at d;cases d;simp at g;subst g;rw[r.1] at j;simp at j;subst j;exact⟨u,v⟩;rw[List.getElem?_eq_none (by simp;omega)] at g;cases g
theorem gn {M n:Nat} {all:List Oper} {r:Nat} {E:List (Nat×Nat)}:∀{os:List Oper} {i:Nat} {a:Ek} {env:List Value} {h:AH} {rs gs:List WR} {es:List (List Value)} {q:List WR->Ek->AH->Prop},eW a env->env.length=n->gs.length=i->(∀j,all[i+j]?=os[j]?)->WOk all gs.reverse es->(E≠[]->Rl E rs gs)->
  wDT P K M n (fun j=>((⟨all⟩:Array Oper)[j]?).bind (·.dst)) r E os i a h rs q->
  ∃m A B e h' Y,gE P (run P K m) all r i os env h=some (List.zipWith (fun x e=>⟨e,x.h,x.v⟩) A B,e,h')/\A.length=B.length/\WOk all (gs.reverse++A) (es++B)/\eW Y e/\e.length=n/\∃t,(E≠[]->Rl E t (A.reverse++gs))/\q t Y h'
 |[],i,a,env,h,rs,gs,es,q,ha,W,_,_,U,hg,X=>⟨0,[],[],env,h,a,rfl,rfl,by simpa using U,ha,W,rs,by simpa using hg,X⟩
 |o::os,i,a,env,h,rs,gs,es,q,ha,W,w,V,U,hg,X=>by
  have X:wDF P K M n (fun j=>((⟨all⟩:Array Oper)[j]?).bind (·.dst)) r E o (wDT P K M n (fun j=>((⟨all⟩:Array Oper)[j]?).bind (·.dst)) r E os) i a h rs q:=X;unfold wDF at X;have X:=oq X;obtain⟨a1,g,hb⟩:=aJn (o:=o) ha X;have ho:all[gs.reverse.length]?=some o:=by have:=V 0;rw[List.length_reverse,w];simpa using this
  have J:∀j,all[i+1+j]?=os[j]?:=fun j=>by
   have:=V (j+1);rw[show i+1+j=i+(j+1) by omega,this];simp
  rcases hb with⟨d,hb⟩|⟨d,hb⟩
  .obtain⟨R,hb,hR⟩:=aDo w hg hb;obtain⟨Q,v,T,u,hs,ζ,ι,t,β,ε⟩:∃Q v T u,eU P (run P K Q) all r i env h o=some (v,T)/\eW u (iO env o.dst v)/\(iO env o.dst v).length=n/\
     ∃t,(E≠[]->Rl E t (⟨a1,h,v,true⟩::gs))/\wDT P K M n (fun j=>((⟨all⟩:Array Oper)[j]?).bind (·.dst)) r E os (i+1) u T t q:=by
    obtain⟨Y,I,hb⟩:=Sd g hb
    split at hb
    .rename_i x hx;obtain⟨hk,hl⟩:=ig (P:=P) g hx;have η:gB o.op=true:=by
      cases hop:o.op<;>rw[hop] at hk<;>first|(simp[gB,kindOf];done)|(simp[kindOf] at hk)
     have θ:dZ P (cQ P env) h o.op=some (cQ P env x):=by
      have:=hl h;cases hop:o.op<;>rw[hop] at hk this<;>first|exact this|(simp[kindOf] at hk)
     have fin:∀{u:Ek} {v:Value},v=cQ P env x->eW u (iO env o.dst (cQ P env x))->(iO env o.dst (cQ P env x)).length=n->R h v true (fun rs=>wDT P K M n (fun j=>((⟨all⟩:Array Oper)[j]?).bind (·.dst)) r E os (i+1) u h rs q)->
       ∃Q v T u,eU P (run P K Q) all r i env h o=some (v,T)/\eW u (iO env o.dst v)/\(iO env o.dst v).length=n/\∃t,(E≠[]->Rl E t (⟨a1,h,v,true⟩::gs))/\wDT P K M n (fun j=>((⟨all⟩:Array Oper)[j]?).bind (·.dst)) r E os (i+1) u T t q:=by
      intro u v e F H D
      subst e
      exact⟨0,_,h,u,by simp[eU,d,η,θ],F,H,hR _ _ _ _ D⟩
     obtain⟨k1,_⟩:=u7 (P:=P) (x:=x) g
     rcases aE6 hb with⟨y,hy,hb⟩|hb|hb
     .have hb:=eT g hb;obtain⟨u,F,H,D⟩:=rB I W (fun z e=>by cases e;exact k1 _ hy) (fun e=>by cases e) hb;exact fin rfl F H D
     .have hb:=eT g hb;obtain⟨u,F,H,D⟩:=rB I W (fun _ e=>by cases e) (fun e=>by cases e) hb;exact fin rfl F H D
     .have hb:=eT g hb;obtain⟨u,F,H,D⟩:=rB I W (fun _ e=>by cases e) (fun e=>by cases e) hb;exact fin rfl F H D
    .rcases Yo hb with hb|hb
     .obtain⟨Q,v,T,hs,hp⟩:=aEg g d hb;obtain⟨u,F,H,D⟩:=rB I W (fun _ e=>by cases e) (fun e=>by cases e) hp;exact⟨Q,v,T,u,hs,F,H,hR _ _ _ _ D⟩
     .obtain⟨Q,v,T,hs,hp⟩:=aEg g d hb;obtain⟨u,F,H,D⟩:=rB I W (fun _ e=>by cases e) (fun e=>by cases e) hp;exact⟨Q,v,T,u,hs,F,H,hR _ _ _ _ D⟩
   obtain⟨n2,A,B,e,h',Y,hr,γ,O,Z,δ,hq⟩:=gn (i:=i+1) ζ ι (by simp[w]) J (by rw[List.reverse_cons];exact U.snoc (x:=⟨a1,h,v,true⟩) ho g d) β ε;refine⟨max Q n2,⟨a1,h,v,true⟩::A,env::B,e,h',Y,?_,by simp[γ],by simpa using O,Z,δ,by simpa using hq⟩;simp only[gE,G5 (jV (Nat.le_max_left Q n2)) hs,Ao (jV (Nat.le_max_right Q n2)) _ hr];rfl
  obtain⟨R,hb,hR⟩:=aDo w hg hb;obtain⟨u,F,H,D⟩:=rB g W (fun _ e=>by cases e) (fun _=>rfl) hb;obtain⟨t,β,D⟩:=hR _ _ _ _ D;obtain⟨n2,A,B,e,h',Y,hr,γ,O,Z,δ,hq⟩:=gn (i:=i+1) F H (by simp[w]) J (by rw[List.reverse_cons];exact U.snoc (x:=⟨a1,h,undef,false⟩) ho g d) β D;refine⟨n2,⟨a1,h,undef,false⟩::A,env::B,e,h',Y,?_,by simp[γ],by simpa using O,Z,δ,by simpa using hq⟩;have hs:eU P (run P K n2) all r i env h o=some (undef,h):=by simp only[eU,d]
  simp only[gE,hs,hr];rfl
def la (P:Program) (all:List Oper) (rs:List WR) (hEnd:AH) (x:Nat×Nat) (d:Prop->Prop) (p:Prop):Prop:=match x with
 |(i,s)=>(match all[i]?,rs[i]? with
  |some o,some ⟨a,_,v,true⟩=>(match rs[s]? with
   |some ⟨_,h,_,_⟩=>wLV P a h (fun x=>nN x v=true) o.op/\d p
   |none=>wLV P a hEnd (fun x=>nN x v=true) o.op/\d p)
  |some _,some ⟨_,_,_,false⟩=>d p
  |_,_=>hF)
def wFl (P:Program) (all:List Oper) (rs:List WR) (hEnd:AH) (fs:List (Nat×Nat)):Prop->Prop:=List.rec (fun p=>p) (fun x _ d=>la P all rs hEnd x d) fs
theorem zd {all:List Oper} {rs:List WR} {es:List (List Value)} {hEnd:AH} (g:WOk all rs es) {p:Prop}:∀{fs:List (Nat×Nat)},wFl P all rs hEnd fs p->(fs.all (sD P all (List.zipWith (fun x e=>⟨e,x.h,x.v⟩) rs es) hEnd)=true)/\p
 |[],m=>⟨rfl,m⟩
 |(i,s)::fs,m=>by
  change la P all rs hEnd (i,s) (wFl P all rs hEnd fs) p at m;unfold la at m;simp only at m;have F:∀{j:Nat} {x:WR},rs[j]?=some x->∃e,es[j]?=some e/\(List.zipWith (fun x e=>(⟨e,x.h,x.v⟩:Rec)) rs es)[j]?=some ⟨e,x.h,x.v⟩:=by
   intro j x r;have J:j<es.length:=by rw[<-g.1];exact(List.getElem?_eq_some_iff.1 r).1
   exact⟨es[j],by simp[J],by simp[List.getElem?_zipWith,r,J]⟩
  split at m;rename_i o a h v w r;obtain⟨e,B,t⟩:=F r;obtain⟨I,d⟩:=g.2 i o _ e w r B;have fin:∀{y:AH},(match(List.zipWith (fun x e=>(⟨e,x.h,x.v⟩:Rec)) rs es)[s]? with|some q=>q.h|none=>hEnd)=y->wLV P a y (fun x=>nN x v=true) o.op/\wFl P all rs hEnd fs p->(((i,s)::fs).all (sD P all (List.zipWith (fun x e=>⟨e,x.h,x.v⟩) rs es) hEnd)=true)/\p:=by
   intro y D ⟨O,Q⟩;obtain⟨z,A⟩:=zd g Q;refine⟨?_,A⟩;obtain⟨_,u,T,U⟩:=aEm I O;rw[List.all_cons,z,Bool.and_true];cases hc:(List.zipWith (fun x e=>(⟨e,x.h,x.v⟩:Rec)) rs es)[s]?<;>(rw[hc] at D;simp only at D;subst D;simp only[sD,w,t,d,hc,T,U])
  split at m;rename_i E;obtain⟨V,_,H⟩:=F E;exact fin (by rw[H]) m;rename_i E;have:(List.zipWith (fun x e=>(⟨e,x.h,x.v⟩:Rec)) rs es)[s]?=none:=by simp[List.getElem?_zipWith,E]
  exact fin (by rw[this]) m;rename_i o a h v w r;obtain⟨e,B,t⟩:=F r;obtain⟨I,d⟩:=g.2 i o _ e w r B;obtain⟨z,A⟩:=zd g m;refine⟨?_,A⟩;rw[List.all_cons,z,Bool.and_true];simp only[sD,w,t,d];cases m
def feq:List (Nat×Nat)->List (Nat×Nat)->Bool
 |[],[]=>true
 |(a,b)::l,(c,d)::m=>Nat.beq a c&&(Nat.beq b d&&feq l m)
 |_,_=>false
theorem aDr:∀{l m:List (Nat×Nat)},feq l m=true->l=m
 |[],[],_=>rfl
 |(a,b)::l,(c,d)::m,h=>by
  simp only[feq,Bool.and_eq_true] at h;rw[Nat.eq_of_beq_eq_true h.1,Nat.eq_of_beq_eq_true h.2.1,aDr h.2.2]
 |[],_::_,h=>by cases h
 |_::_,[],h=>by cases h
def aDw (P:Program) (ops:Array Oper) (d:List (Nat×Nat)):Bool:=Gc ops.toList&&(P.follows .mixedOrders|| !Region.departs ops)&&feq (B7 ops.toList) d
def aAr:List (Nat×List (Nat×Nat))->Nat->(List (Nat×Nat)->Prop)->Prop
 |[],_,q=>hP (q [])
 |(i,l)::F,id,q=>(match Nat.beq i id with
  |true=>q l
  |false=>aAr F id q)
theorem ti:∀{F:List (Nat×List (Nat×Nat))} {id:Nat} {q:List (Nat×Nat)->Prop},aAr F id q->∃l,q l
 |[],_,_,h=>⟨_,h⟩
 |_::F,_,_,h=>by
  unfold aAr at h;split at h;exact⟨_,h⟩;exact ti (F:=F) h
theorem N4 {all:List Oper} {rs gs:List WR} {hEnd:AH} {p:Prop} {z:List (Nat×Nat)} (o:rs.length=gs.length) (v:∀(j:Nat) (x y:WR),rs[j]?=some x->gs[j]?=some y->x=y\/Tj z j=false/\x.h=y.h):
  ∀{fs:List (Nat×Nat)},(∀x∈fs,Tj z x.1=true)->wFl P all rs hEnd fs p->wFl P all gs hEnd fs p
 |[],_,e=>e
 |(i,s)::fs,B,e=>by
  change la P all rs hEnd (i,s) (wFl P all rs hEnd fs) p at e;show la P all gs hEnd (i,s) (wFl P all gs hEnd fs) p;have w:=N4 (hEnd:=hEnd) (all:=all) (p:=p) o v (fs:=fs) fun x E=>B x (List.mem_cons_of_mem _ E);have D:rs[i]?=gs[i]?:=by
   have u:=B (i,s) List.mem_cons_self;rcases Nat.lt_or_ge i rs.length with d|r;have A:rs[i]?=some rs[i]:=List.getElem?_eq_getElem d;have m:gs[i]?=some (gs[i]'(o▸d)):=List.getElem?_eq_getElem _;rcases v i _ _ A m with g|⟨g,_⟩;rw[A,m,g];rw[u] at g;cases g;rw[List.getElem?_eq_none r,List.getElem?_eq_none (o▸r)]
  unfold la at e ⊢;simp only at e ⊢;rw[<-D];split at e;split at e;rename_i F u v1 H t;have d:s<rs.length:=(List.getElem?_eq_some_iff.1 t).1;have m:gs[s]?=some (gs[s]'(o▸d)):=List.getElem?_eq_getElem _;have g:u=(gs[s]'(o▸d)).h:=by
   rcases v s _ _ t m with g|⟨_,g⟩;rw[<-g];exact g
  rw[m];generalize gs[s]'(o▸d)=y at g;subst g;exact⟨e.1,w e.2⟩;rename_i t;have m:gs[s]?=none:=by
   rw[List.getElem?_eq_none_iff] at t ⊢;omega
  rw[m];exact⟨e.1,w e.2⟩;exact w e;cases e
theorem ua:∀{d:List (Nat×Nat)} {x:Nat×Nat},x∈d->Tj d x.1=true
 |(a,b)::l,x,h=>by
  unfold Tj;split;rfl;rename_i e;rcases List.mem_cons.1 h with rfl|h;rw[Nat.beq_refl] at e;cases e;exact ua h
def rvK (q:List WR->Prop):List WR->List WR->Prop
 |[],acc=>hP (q acc)
 |x::l,acc=>rvK q l (x::acc)
theorem aEf {q:List WR->Prop}:∀{l acc:List WR},rvK q l acc->q (l.reverse++acc)
 |[],_,h=>h
 |x::l,acc,h=>by have:=aEf (l:=l) h;simpa using this
def aDs (P:Program) (K:FuncId->List Value->Option iJ) (M n:Nat) (F:List (Nat×List (Nat×Nat))) (id:Nat) (ops:Array Oper) (a:Ek) (h:AH) (q:Ek->AH->Prop):Prop:=
 aAr F id fun d=>nK ops.size fun m=>Oy (aDw P ops d) h m fun r t=>(match d with
  |[]=>wDT P K M n (fun j=>(ops[j]?).bind (·.dst)) r [] ops.toList 0 a t [] fun _ g e=>q g e
  |d=>wDT P K M n (fun j=>(ops[j]?).bind (·.dst)) r d ops.toList 0 a t [] fun o g e=>rvK (fun o=>wFl P ops.toList o e d (q g e)) o [])
theorem aAn {M n:Nat} {F:List (Nat×List (Nat×Nat))} {id:Nat} {ops:Array Oper} {a:Ek} {env:List Value} (X:eW a env) (Y:env.length=n) {h:AH} {q:Ek->AH->Prop} (A:aDs P K M n F id ops a h q):∃m e t u,pT P (run P K m) ops env h=some (e,t)/\eW u e/\e.length=n/\q u t:=by
 obtain⟨fl,A⟩:=ti A;obtain⟨D,A⟩:=oq A;unfold aDw at D;rw[Bool.and_eq_true] at D;have I:=aDr D.2;subst I;obtain⟨m,d,g,e,t,u,B,E,y,v,w,z⟩:∃m d g e t u,gE P (run P K m) ops.toList h.next 0 ops.toList env {h with next:=h.next+ops.size}=some (List.zipWith (fun x e=>⟨e,x.h,x.v⟩) d g,e,t)/\d.length=g.length/\WOk ops.toList d g/\eW u e/\e.length=n/\wFl P ops.toList d t (B7 ops.toList) (q u t):=by
  have T:WOk ops.toList ([]:List WR).reverse []:=⟨rfl,fun i o x e _ O=>by simp at O⟩;split at A;rename_i H;obtain⟨m,d,g,e,t,u,B,E,y,v,w,Q,_,z⟩:=gn (all:=ops.toList) (r:=h.next) (i:=0) (gs:=[]) (es:=[]) X Y rfl (fun j=>by simp) T (fun e=>absurd rfl e) A;exact⟨m,d,g,e,t,u,B,E,by simpa using y,v,w,by rw[H];exact z⟩;rename_i H;obtain⟨m,d,g,e,t,u,B,E,y,v,w,Q,J,z⟩:=gn (all:=ops.toList) (r:=h.next) (i:=0) (rs:=[]) (gs:=[]) (es:=[]) X Y rfl (fun j=>by simp) T (fun _=>trivial) A;have U:=J (fun e=>H e);rw[List.append_nil] at U;obtain⟨Z,h3⟩:=yc U;have V:=aEf z;rw[List.append_nil] at V;have W:=N4 (by simpa using Z) h3 (fun x O=>ua O) V;rw[List.reverse_reverse] at W;exact⟨m,d,g,e,t,u,B,E,by simpa using y,v,w,W⟩
 obtain⟨hf,z⟩:=zd y z;refine⟨m,e,t,u,?_,v,w,z⟩;unfold pT;rw[aNa D.1,B];simp only;rw[aNa hf]
end
end Go.Ab
end
section
namespace Go.Ab
noncomputable section
variable {P:Program} {K:FuncId->List Value->Option iJ}
inductive It where
 |code (p:List Nat) (c:Code)|inBlock (id:Nat)|inLoop (p:List Nat) (b:Code)|inScope (b:Code)|beginRound
def It.it:It->Item
 |.code _ c=> .code c
 |.inBlock id=> .inBlock id
 |.inLoop _ b=> .inLoop b
 |.inScope b=> .inScope b
 |.beginRound=> .beginRound
abbrev Eb (k:List It):List Item:=k.map It.it
def nI (b:Nat) (p:List Nat) (x:Code×List It):Code×List It:=match x.1,b with
 |.seq c d,0=>(c,.code (1::p) d::x.2)
 |.seq _ d,1=>(d,x.2)
 |.cond _ t _,0=>(t,x.2)
 |.cond _ _ e,1=>(e,x.2)
 |.block id c,0=>(c,.inBlock id::x.2)
 |.loop c,0=>(c,.inLoop (0::p) c::x.2)
 |.scope c,0=>(c,.inScope c::x.2)
 |.rangeFunc _ _ a c,0=>(a,[.beginRound,.code (1::p) c])
 |.rangeFunc _ _ _ c,1=>(c,[])
 |_,_=>(.skip,[])
def ctx (P:Program) (f:FuncId):List Nat->Code×List It
 |[]=>((Me P f).getD .skip,[])
 |b::p=>nI b p (ctx P f p)
def Good (P:Program) (f:FuncId):List It->Prop
 |[]=>True
 |.code p c::k=>ctx P f p=(c,k)/\Good P f k
 |.inLoop p b::k=>ctx P f p=(b,.inLoop p b::k)/\Good P f k
 |_::k=>Good P f k
def uE (id:Nat):List It->Option (List It)
 |[]=>none
 |.inBlock i::k=>(match Nat.beq i id with
  |true=>some k
  |false=>uE id k)
 |_::k=>uE id k
theorem uC {f:FuncId} {id:Nat}:∀{k k':List It},uE id k=some k'->exitTo id (Eb k)=some (Eb k')/\(Good P f k->Good P f k')
 |[],_,h=>by cases h
 |x::k,k',h=>by
  cases x with
  |inBlock i=>
   unfold uE at h;split at h;rename_i e;cases h;have:=Nat.eq_of_beq_eq_true e;subst this;exact⟨by simp[Eb,It.it,exitTo],fun g=>g⟩;rename_i e;obtain⟨d,j⟩:=uC (f:=f) h;refine⟨?_,fun g=>j g⟩;have:(i==id)=false:=by simpa using Nat.ne_of_beq_eq_false e
   simpa [Eb,It.it,exitTo,this] using d
  |code p c=>obtain⟨d,j⟩:=uC (f:=f) (k:=k) h;exact⟨d,fun g=>j g.2⟩
  |inLoop p c=>obtain⟨d,j⟩:=uC (f:=f) (k:=k) h;exact⟨d,fun g=>j g.2⟩
  |inScope c=>obtain⟨d,j⟩:=uC (f:=f) (k:=k) h;exact⟨d,fun g=>j g⟩
  |beginRound=>obtain⟨d,j⟩:=uC (f:=f) (k:=k) h;exact⟨d,fun g=>j g⟩
theorem uO {id:Nat}:∀{k:List It},uE id k=none->exitTo id (Eb k)=none
 |[],_=>rfl
 |x::k,h=>by
  cases x with
  |inBlock i=>
   unfold uE at h;split at h;cases h;rename_i e;have:(i==id)=false:=by simpa using Nat.ne_of_beq_eq_false e
   simpa [Eb,It.it,exitTo,this] using uO h
  |code p c=>exact uO (k:=k) h
  |inLoop p c=>exact uO (k:=k) h
  |inScope c=>exact uO (k:=k) h
  |beginRound=>exact uO (k:=k) h
def lB:Nat->List It->List It
 |0,k=>k
 |n+1,k=>match k with
  |.code p c::d=>(match c with
   |.skip=>lB n d
   |.label _=>lB n d
   |.seq a b=>lB n (.code (0::p) a:: .code (1::p) b::d)
   |.block id b=>lB n (.code (0::p) b:: .inBlock id::d)
   |.scope b=>lB n (.code (0::p) b:: .inScope b::d)
   |.loop b=>lB n (.code (0::p) b:: .inLoop (0::p) b::d)
   |.exit id=>(match uE id d with
    |some e=>lB n e
    |none=>k)
   |_=>k)
  |.inBlock _::d=>lB n d
  |.inScope _::d=>lB n d
  |.inLoop p b::d=>lB n (.code p b:: .inLoop p b::d)
  |_=>k
section
variable {f:FuncId} {p:List Nat} {k:List It} {a b c:Code} {id:Nat}
theorem Good.seq (g:Good P f (.code p (.seq a b)::k)):Good P f (.code (0::p) a:: .code (1::p) b::k):=by
 obtain⟨d,e⟩:=g;exact⟨by simp only[ctx,d,nI],by simp only[ctx,d,nI],e⟩
theorem Good.block (g:Good P f (.code p (.block id b)::k)):Good P f (.code (0::p) b:: .inBlock id::k):=by
 obtain⟨d,e⟩:=g;exact⟨by simp only[ctx,d,nI],e⟩
theorem Good.scope (g:Good P f (.code p (.scope b)::k)):Good P f (.code (0::p) b:: .inScope b::k):=by
 obtain⟨d,e⟩:=g;exact⟨by simp only[ctx,d,nI],e⟩
theorem Good.loop (g:Good P f (.code p (.loop b)::k)):Good P f (.code (0::p) b:: .inLoop (0::p) b::k):=by
 obtain⟨d,e⟩:=g;exact⟨by simp only[ctx,d,nI],by simp only[ctx,d,nI],e⟩
theorem Good.again (g:Good P f (.inLoop p b::k)):Good P f (.code p b:: .inLoop p b::k):=⟨g.1,g⟩
end
theorem mQ {f:FuncId}:∀(n:Nat) {k:List It},Good P f k->Eb (lB n k)=mI n (Eb k)/\Good P f (lB n k)
 |0,_,g=>⟨rfl,g⟩
 |_+1,[],g=>⟨rfl,g⟩
 |n+1,.inBlock _::k,g=>mQ n (k:=k) g
 |n+1,.inScope _::k,g=>mQ n (k:=k) g
 |n+1,.inLoop _ _::_,g=>mQ n g.again
 |_+1,.beginRound::_,g=>⟨rfl,g⟩
 |n+1,.code p c::k,g=>by
  cases c with
  |skip=>exact mQ n g.2
  |label _=>exact mQ n g.2
  |seq a b=>exact mQ n g.seq
  |block id b=>exact mQ n g.block
  |scope b=>exact mQ n g.scope
  |loop b=>exact mQ n g.loop
  |exit id=>
   show Eb (match uE id k with|some d=>lB n d|none=>_)=(match exitTo id (Eb k) with|some d=>mI n d|none=>_)/\Good P f (match uE id k with|some d=>lB n d|none=>_);cases hx:uE id k with
   |some d=>
    obtain⟨e,j⟩:=uC (P:=P) (f:=f) hx;rw[e];exact mQ n (j g.2)
   |none=>rw[uO hx];exact⟨rfl,g⟩
  |_=>exact⟨rfl,g⟩
end
end Go.Ab
end
section
namespace Go.Ab
noncomputable section
variable {P:Program} {K:FuncId->List Value->Option iJ}
structure FT where
 L:List (Nat×List Nat)
 R:List (Nat×List Nat)
 hr:Bool
 M:Nat:=0
 F:List (Nat×List (Nat×Nat)):=[]
def aKx (l:List (List FT)) (f:FuncId):FT:=((l[f/16]?).getD [])[f % 16]?.getD ⟨[],[],false,0,[]⟩
def peq:List Nat->List Nat->Bool
 |[],[]=>true
 |a::l,b::m=>(match Nat.beq a b with
  |true=>peq l m
  |false=>false)
 |_,_=>false
theorem aEi:∀{l m:List Nat},peq l m=true->l=m
 |[],[],_=>rfl
 |a::l,b::m,h=>by
  unfold peq at h;split at h;rename_i e;rw[Nat.eq_of_beq_eq_true e,aEi h];cases h
 |[],_::_,h=>by cases h
 |_::_,[],h=>by cases h
def Ak:List Nat->Nat
 |[]=>1
 |b::p=>2*Ak p+b
def Xc:List (Nat×List Nat)->List Nat->Nat->(Nat->Nat->List Nat->Prop)->Prop
 |[],_,_,_=>hF
 |(n,d)::L,p,i,q=>(match Nat.beq (Ak p) n with
  |true=>(match peq p.reverse (kI n) with
   |true=>q i n d
   |false=>hF)
  |false=>nK (i+1) fun i=>Xc L p i q)
theorem Rh:∀{L:List (Nat×List Nat)} {p:List Nat} {i:Nat} {q:Nat->Nat->List Nat->Prop},Xc L p i q->∃j n d,L[j]?=some (n,d)/\p=(kI n).reverse/\q (i+j) n d
 |[],_,_,_,h=>h.elim
 |(n,d)::L,p,i,q,h=>by
  unfold Xc at h;split at h;split at h;rename_i e;exact⟨0,n,d,rfl,by rw[<-aEi e,List.reverse_reverse],h⟩;cases h;obtain⟨j,t,g,m,o,r⟩:=Rh (oq h);exact⟨j+1,t,g,m,o,by rw[show i+(j+1)=i+1+j by omega];exact r⟩
def Ve (a:Ek):List Nat->(List Value->Prop)->Prop
 |[],q=>q []
 |t::d,q=>(match a.lk t with
  |some (v,_)=>Ve a d fun e=>q (v::e)
  |none=>hF)
theorem Rc {a:Ek} {env:List Value} (d:eW a env):∀{lv:List Nat} {q:List Value->Prop},Ve a lv q->q (lv.map fun t=>env.getD t undef)
 |[],_,h=>h
 |t::lv,q,h=>by
  unfold Ve at h;split at h;rename_i g;have e:=(d _ _ _ g).1;have:=Rc d (lv:=lv) h;simpa only[List.map_cons,List.getD_eq_getElem?_getD,e,Option.getD_some] using this;cases h
def PtI (P:Program) (K:FuncId->List Value->Option iJ) (T:FT) (f:FuncId) (e:Option Nat) (Q:Out->AH->Prop) (i:Nat) (d:List Nat) (vs:List Value) (h:AH):Prop:=
 Pt P K f e Q (ntm P f) ((T.L[i]?).getD (0,[])).2 (.code (ctx P f (kI ((T.L[i]?).getD (0,[])).1).reverse).1::Eb (ctx P f (kI ((T.L[i]?).getD (0,[])).1).reverse).2) d vs h
def wE (T:FT) (a:Ek) (k:List It) (q:Nat->List Value->Prop):Prop:=match k with
 |.code p _::_=>Xc T.L p 0 fun i _ d=>Ve a d fun e=>q i e
 |_=>hF
theorem aCb {T:FT} {f:FuncId} {m:Option Nat} {Q:Out->AH->Prop} {g:List Nat} {h:AH} {a:Ek} {env:List Value} {k:List It} (u:eW a env) (w:env.length=ntm P f) (v:Good P f k) (e:wE T a k fun i y=>PtI P K T f m Q i g y h):Ok P K (.todo f m g env (Eb k)) h Q:=by
 unfold wE at e;split at e;obtain⟨j,n,z,o,r,d⟩:=Rh e;have d:=Rc u d;simp only[PtI,Nat.zero_add,o,Option.getD_some,<-r,v.1] at d;have:=d (fun t=>env.getD t undef) rfl;rwa [Ov w] at this;cases e
def Wz (P:Program) (a:Ek) (h:AH) (r:ResultVar) (d:(List Value->Prop)->Prop) (p:List Value->Prop):Prop:=match r with
 |.tmp t=>(match a.lk t with
  |some (v,_)=>d fun l=>p (v::l)
  |none=>hF)
 |.cell x t=>(match a.lk x with
  |some (v,_)=>(match iQ P t with
   |some true=>S9 P t fun n=>aY (tU h n v) fun v=>d fun l=>p (v::l)
   |some false=>aY (oM h v) fun v=>d fun l=>p (v::l)
   |none=>hF)
  |none=>hF)
def oz (P:Program) (a:Ek) (h:AH) (rs:List ResultVar):(List Value->Prop)->Prop:=List.rec (fun p=>p []) (fun r _ d=>Wz P a h r d) rs
theorem Ld {a:Ek} {env:List Value} (e:eW a env) {h:AH}:∀{rs:List ResultVar} {p:List Value->Prop},oz P a h rs p->Sa P h env rs p
 |[],_,d=>d
 |.tmp t::rs,p,d=>by
  have d:Wz P a h (.tmp t) (oz P a h rs) p:=d;unfold Wz at d;simp only at d;split at d;rename_i m;have g:=(e _ _ _ m).1;have:=Ld e (rs:=rs) d;simpa only[Sa,List.getD_eq_getElem?_getD,g,Option.getD_some] using this;cases d
 |.cell x t::rs,p,d=>by
  have d:Wz P a h (.cell x t) (oz P a h rs) p:=d;unfold Wz at d;simp only at d;split at d;rename_i m;have g:=(e _ _ _ m).1;simp only[Sa,List.getD_eq_getElem?_getD,g,Option.getD_some];split at d;rename_i j;simp only[j];exact(rJ d).2.mono fun v o=>Ld e o;rename_i j;simp only[j];exact d.mono fun v o=>Ld e o;cases d;cases d
def aA7 (Q:Value->AH->Prop) (l:List Value) (h:AH):Prop:=match l with
 |[v]=>Q v h
 |l=>hP (Q (.tuple ⟨l⟩) h)
theorem aEo {Q:Value->AH->Prop} {h:AH}:(fun l=>aA7 Q l h)=fun l=>Q (oneOf l) h:=funext fun l=>match l with
 |[]=>rfl
 |[_]=>rfl
 |_::_::_=>rfl
def aCf (P:Program) (f:FuncId) (j:Bool) (Q:Value->AH->Prop) (lv:wQ) (e:List Nat) (a:Ek) (h:AH):Prop:=match lv with
 |.exit _=>hF
 |_=>(match j with
  |true=>aY (bS e h) fun g=>oz P a g ((P.funcs[f]?).elim [] fun d=>d.results.toList) fun l=>aA7 Q l g
  |false=>(match e with
   |[]=>oz P a h ((P.funcs[f]?).elim [] fun d=>d.results.toList) fun l=>aA7 Q l h
   |_=>hF))
theorem rz {f:FuncId} {w:Bool} {Q:Value->AH->Prop} {lv:wQ} {o:List Nat} {a:Ek} {env:List Value} {h:AH} (t:eW a env) (g:aCf P f w Q lv o a h):ag P f Q ⟨lv,o,env,undef⟩ h:=by
 have m:(∀id,lv≠.exit id)->(aY (bS o h) fun j=>oz P a j ((P.funcs[f]?).elim [] fun v=>v.results.toList) fun l=>aA7 Q l j)->ag P f Q ⟨lv,o,env,undef⟩ h:=by
  intro d ⟨j,u,r⟩;simp only[aEo] at r;refine Xp ?_;unfold aHb;cases lv with
  |exit id=>exact absurd rfl (d id)
  |iR=>exact⟨j,u,Ld t r⟩
  |ret=>exact⟨j,u,Ld t r⟩
 unfold aCf at g;split at g;cases g;rename_i d;split at g;exact m (fun id e=>d id e) g;split at g;exact m (fun id e=>d id e) ⟨h,rfl,g⟩;cases g
end
end Go.Ab
end
section
namespace Go.Ab
noncomputable section
variable {P:Program} {K:FuncId->List Value->Option iJ}
def wq:List It->Bool
 |[]=>true
 |.code _ .ret::_=>true
 |.code _ (.exit _)::_=>true
 |_=>false
def Zt (k:List It):Bool:=match lB 60 k with
 |.code _ (.region _ _ _)::d=>wq (lB 60 d)
 |d=>wq d
def wRg (P:Program) (K:FuncId->List Value->Option iJ) (f:FuncId) (m:Nat) (g:Value) (num:Nat) (lv:List Nat) (vs:List Value) (d:Nat) (h:AH) (q:Option Code->AH->Prop):Prop:=
 ∀e:Nat->Value,lv.map e=vs->Bj h (lp P f (kI num) m e d .ready none) fun l j=>Rz P K g l j fun _ o=>aY (qM o l) fun r=>(match r with|(pd,t)=>q pd t)
def wTF (P:Program) (K:FuncId->List Value->Option iJ) (E:List Nat->Ek->List It->AH->Prop) (F:wQ->List Nat->Ek->AH->Prop) (T:FT) (f:FuncId) (m:Nat) (D:Option Nat) (o:List Nat->Ek->List It->AH->Prop) (g:List Nat) (a:Ek) (k:List It) (h:AH):Prop:=(match k with
  |[]=>F .iR g a h
  |.code p c::k=>(match c with
   |.skip=>o g a k h
   |.label _=>o g a k h
   |.seq x y=>o g a (.code (0::p) x:: .code (1::p) y::k) h
   |.cond c t e=>(match knW a c with
    |.b true=>o g a (.code (0::p) t::k) h
    |.b false=>o g a (.code (1::p) e::k) h
    |_=>vI P a c fun v=>Br v
     (match Zt (.code (0::p) t::k) with
     |true=>o g a (.code (0::p) t::k) h
     |false=>E g a (lB 60 (.code (0::p) t::k)) h)
     (match Zt (.code (1::p) e::k) with
     |true=>o g a (.code (1::p) e::k) h
     |false=>E g a (lB 60 (.code (1::p) e::k)) h))
   |.block id b=>o g a (.code (0::p) b:: .inBlock id::k) h
   |.loop b=>E g a (lB 60 (.code (0::p) b:: .inLoop (0::p) b::k)) h
   |.scope b=>o g a (.code (0::p) b:: .inScope b::k) h
   |.exit id=>(match uE id k with
    |some w=>o g a w h
    |none=>(match D with
     |some _=>F (.exit id) g a h
     |none=>hF))
   |.ret=>F .ret g a h
   |.region _ ops false=>aAs P K T.M m (fun j=>(ops[j]?).bind (·.dst)) ops.toList a h fun A r=>o g A k r
   |.region id ops true=>aDs P K T.M m T.F id ops a h fun A r=>o g A k r
   |.rangeFunc z _ _ u=>vI P a z fun z=>Xc T.R p 0 fun _ num B=>Ve a B fun H=>(match D with
    |none=>Bj h (.marks true) fun d I=>wRg P K f m z num B H d I fun pd r=>qY pd (o (d::g) a k r) (F .ret (d::g) a r)
      ((iN u).map fun id=>(id,(match uE id k with
       |some w=>o (d::g) a w r
       |none=>hF)))
    |some l=>aY (eP h l) fun d=>wRg P K f m z num B H d h fun pd r=>qY pd (o g a k r) (F .ret g a r)
      ((iN u).map fun id=>(id,(match uE id k with
       |some w=>o g a w r
       |none=>F (.exit id) g a r))))
   |_=>hF)
  |.inBlock _::k=>o g a k h
  |.inScope _::k=>o g a k h
  |.inLoop p b::k=>E g a (lB 60 (.code p b:: .inLoop p b::k)) h
  |.beginRound::k=>(match D with
   |some l=>aY (iP h l) fun r=>o g a k r
   |none=>hF))
def wT (P:Program) (K:FuncId->List Value->Option iJ) (E:List Nat->Ek->List It->AH->Prop) (F:wQ->List Nat->Ek->AH->Prop) (T:FT) (f:FuncId) (m:Nat) (e:Option Nat) (n:Nat):List Nat->Ek->List It->AH->Prop:=
 Nat.rec (fun _ _ _ _=>hF) (fun _ d=>wTF P K E F T f m e d) n
theorem mz {b:Nat} {p q:List Nat} {c:Code} {k k':List It}:(nI b p (c,k)).1=(nI b q (c,k')).1:=by
 unfold nI;rcases b with _|_|b<;>cases c<;>rfl
theorem uj {b:Nat} {c:Code} {l:List Nat}:sub c (b::l)=sub (nI b [] (c,[])).1 l:=by
 have d:∀l:List Nat,sub .skip l= .skip:=fun l=>by cases l<;>simp[sub]
 rcases b with _|_|b<;>cases c<;>simp[sub,nI,d]
theorem sub_fold:∀(l:List Nat) (c:Code),sub c l=l.foldl (fun c b=>(nI b [] (c,[])).1) c
 |[],c=>by simp[sub]
 |b::l,c=>by rw[uj,sub_fold l];rfl
theorem Qe {f:FuncId}:∀p:List Nat,(ctx P f p).1=sub ((Me P f).getD .skip) p.reverse
 |[]=>by simp[ctx,sub]
 |b::p=>by
  have d:(ctx P f (b::p)).1=(nI b [] ((ctx P f p).1,[])).1:=mz;rw[d,Qe p,List.reverse_cons,sub_fold,sub_fold,List.foldl_append];rfl
theorem aEe {f:FuncId} {m:Nat} {z:Operand} {v:Value} {num:Nat} {lv:List Nat} {env:List Value} {ps:Array Tmp} {u r:Code} {d:Nat} {h:AH} {q:Option Code->AH->Prop} (B:env.length=m) (hc:cd P f (kI num)= .rangeFunc z ps u r)
  (D:wRg P K f m v num lv (lv.map fun t=>env.getD t undef) d h q):
  ∃n g first j o w p y,v= .func (.func g) first j/\fX P g=true/\run P K n (.call g (first.toList++[.func (.yield h.next) #[] #[]]++j.toList)) (h.alloc (.loop .ready none f env ps u r d))=some (o,w)/\
   qM w h.next=some (p,y)/\q p y:=by
 subst B
 refine Mq (lv:=lv) ?_
 intro e A
 have:=D e A
 simp only[lp,hc,rgF] at this
 exact this
theorem oL {f:FuncId} {e:Option Nat} {d:List Nat} {env:List Value} {k k':List Item} {h:AH} {Q:Out->AH->Prop} (j:Ok P K (.todo f e d env k') h Q) (g:∀m,run P K (m+1) (.todo f e d env k) h=run P K m (.todo f e d env k') h):Ok P K (.todo f e d env k) h Q:=D4 g j
theorem aAq {E:List Nat->Ek->List It->AH->Prop} {F:wQ->List Nat->Ek->AH->Prop} {T:FT} {f:FuncId} {m:Nat} {Y:Option Nat} {Q:Out->AH->Prop}
  (hE:∀A a env k h,eW a env->env.length=m->Good P f k->E A a k h->Ok P K (.todo f Y A env (Eb k)) h Q) (hF:∀lv A a env h,eW a env->F lv A a h->Q ⟨lv,A,env,undef⟩ h):
  ∀(n:Nat) {A:List Nat} {a:Ek} {env:List Value} {k:List It} {h:AH},eW a env->env.length=m->Good P f k->wT P K E F T f m Y n A a k h->Ok P K (.todo f Y A env (Eb k)) h Q
 |0,_,_,_,_,_,_,_,_,u=>u.elim
 |n+1,A,a,env,k,h,v,H,B,u=>by
  have O:∀{A:List Nat} {a:Ek} {env:List Value} {k:List It} {h:AH},eW a env->env.length=m->Good P f k->wT P K E F T f m Y n A a k h->Ok P K (.todo f Y A env (Eb k)) h Q:=fun x y z w=>aAq hE hF n x y z w;have nm:∀{k:List It},Good P f k->E A a (lB 60 k) h->Ok P K (.todo f Y A env (Eb k)) h Q:=fun g hk=>by
   obtain⟨h1,h2⟩:=mQ (P:=P) (f:=f) 60 g;exact Cb 60 (h1▸hE _ _ _ _ _ v H h2 hk)
  have go:∀{k':List It},Good P f k'->(match Zt k' with
     |true=>wT P K E F T f m Y n A a k' h
     |false=>E A a (lB 60 k') h)->Ok P K (.todo f Y A env (Eb k')) h Q:=by
   intro k' g hk
   split at hk
   .exact O v H g hk
   .exact nm g hk
  change wTF P K E F T f m Y (wT P K E F T f m Y n) A a k h at u;unfold wTF at u;split at u;exact⟨1,_,rfl,hF _ _ _ _ _ v u⟩;rename_i p c k;split at u;exact oL (O v H B.2 u) fun _=>rfl;exact oL (O v H B.2 u) fun _=>rfl;exact oL (O v H B.seq u) fun _=>rfl;rename_i c t e;have g1:Good P f (.code (0::p) t::k):=⟨by simp only[ctx,B.1,nI],B.2⟩;have g2:Good P f (.code (1::p) e::k):=⟨by simp only[ctx,B.1,nI],B.2⟩;obtain⟨k1,k2⟩:=u7 (P:=P) (x:=c) v;split at u;rename_i hk;exact Ro (Vu (b:=true) (fun _=>O v H g1 u) (by simp)|>fun x=>by rw[k1 _ hk];exact x);rename_i hk;exact Ro (Vu (b:=false) (by simp) (fun _=>O v H g2 u)|>fun x=>by rw[k1 _ hk];exact x);exact Ro (let⟨b,x,y,z⟩:=eT v u;⟨b,x,fun t=>go g1 (y t),fun t=>go g2 (z t)⟩);exact oL (O v H B.block u) fun _=>rfl;exact oL (nm B.loop u) fun _=>rfl;exact oL (O v H B.scope u) fun _=>rfl;rename_i id;split at u;rename_i k' U;obtain⟨h1,h2⟩:=uC (P:=P) (f:=f) U;refine oL (O v H (h2 B.2) u) fun m=>?_;show dL P (run P K m) _ _ _ _ (.code (.exit id)::Eb k) _=_;simp only[dL,h1];rename_i U;split at u;refine⟨1,(⟨.exit id,A,env,undef⟩,h),?_,hF _ _ _ _ _ v u⟩;show dL P (run P K 0) _ _ _ _ (.code (.exit id)::Eb k) _=_;simp only[dL,uO U,Option.isSome_some,if_true];cases u;exact⟨1,_,rfl,hF _ _ _ _ _ v u⟩;rename_i ops;obtain⟨I,o,h1,a',hr,δ,ζ,u⟩:=X6 v H u;obtain⟨J,r,W,hq⟩:=O δ ζ B.2 u;refine⟨max I J+1,r,?_,hq⟩;show dL P (run P K (max I J)) _ _ _ _ (.code (.region _ ops false)::Eb k) _=_;simp only[dL];rw[jV (Nat.le_max_left I J) _ _ _ hr];exact jV (Nat.le_max_right I J) _ _ _ W;rename_i ops;obtain⟨I,e,h1,a',hr,δ,ζ,u⟩:=aAn v H u;obtain⟨J,r,W,hq⟩:=O δ ζ B.2 u;refine⟨max I J+1,r,?_,hq⟩;show dL P (run P K (max I J)) _ _ _ _ (.code (.region _ ops true)::Eb k) _=_;simp only[dL];rw[Jn (jV (Nat.le_max_left I J)) hr];exact jV (Nat.le_max_right I J) _ _ _ W;rename_i fv ps γ X;have u:=eT v u;obtain⟨j,num,lv,_,hp,u⟩:=Rh u;have u:=Rc v u;have hc:cd P f (kI num)= .rangeFunc fv ps γ X:=by
   have:=Qe (P:=P) (f:=f) p;rw[B.1,hp,List.reverse_reverse] at this;exact this.symm
  have ex:∀{V:List Nat} {h4:AH} {pd:Option Code},qY pd (wT P K E F T f m Y n V a k h4) (F .ret V a h4)
    ((iN X).map fun id=>(id,(match uE id k with
     |some k'=>wT P K E F T f m Y n V a k' h4
     |none=>(match Y with
      |none=>False
      |some _=>F (.exit id) V a h4))))->Ok P K (.todo f Y V env ((pd.map Item.code).toList++Eb k)) h4 Q:=by
   intro V h4 pd U
   unfold qY at U
   split at U
   .exact O v H B.2 U
   .exact⟨1,_,rfl,hF _ _ _ _ _ v U⟩
   .rename_i id;split at U
    .rename_i hl;have:=Xf hl;subst this;split at U
     .rename_i k' hy;obtain⟨h1,h2⟩:=uC (P:=P) (f:=f) hy;refine oL (O v H (h2 B.2) U) fun m=>?_;show dL P (run P K m) _ _ _ _ (.code (.exit id)::Eb k) _=_;simp only[dL,h1]
     .rename_i hy;split at U
      .cases U
      .refine⟨1,(⟨.exit id,V,env,undef⟩,h4),?_,hF _ _ _ _ _ v U⟩;show dL P (run P K 0) _ _ _ _ (.code (.exit id)::Eb k) _=_;simp only[dL,uO hy,Option.isSome_some,if_true]
    .cases U
   .cases U
  split at u;unfold Bj at u;obtain⟨I,g,first,Z,o,h3,p,h4,hf,ε,hr,D,u⟩:=aEe H hc u;obtain⟨J,r,W,hq⟩:=ex u;refine⟨max I J+1,r,?_,hq⟩;show dL P (run P K (max I J)) _ _ _ _ (.code (.rangeFunc fv ps γ X)::Eb k) _=_;unfold qM at D;split at D;rename_i hl;split at D;cases D;rename_i hb;simp only[Option.map_eq_some_iff] at D;obtain⟨h5,D,h6⟩:=D;cases h6;simp only[dL,hf,ε,if_true];rw[jV (Nat.le_max_left I J) _ _ _ hr];simp only[hl,hb,if_false,D];exact jV (Nat.le_max_right I J) _ _ _ W;cases D;rename_i l;obtain⟨d,β,u⟩:=u;obtain⟨I,g,first,Z,o,h3,p,h4,hf,ε,hr,D,u⟩:=aEe H hc u;obtain⟨J,r,W,hq⟩:=ex u;refine⟨max I J+1,r,?_,hq⟩;show dL P (run P K (max I J)) _ _ _ _ (.code (.rangeFunc fv ps γ X)::Eb k) _=_;unfold qM at D;unfold eP at β;split at β;rename_i η;cases β;split at D;rename_i hl;split at D;cases D;rename_i hb;simp only[Option.map_eq_some_iff] at D;obtain⟨h5,D,h6⟩:=D;cases h6;simp only[dL,η,hf,ε,if_true];rw[jV (Nat.le_max_left I J) _ _ _ hr];simp only[hl,hb,if_false,D];exact jV (Nat.le_max_right I J) _ _ _ W;cases D;cases β;cases u;rename_i k;exact oL (O (k:=k) v H B u) fun _=>rfl;rename_i k;exact oL (O (k:=k) v H B u) fun _=>rfl;exact oL (nm B.again u) fun _=>rfl;rename_i k;split at u;rename_i l;obtain⟨h',h1,h2⟩:=u;unfold iP at h1;split at h1;rename_i θ;refine D4 (t':= .todo f (some l) A env (Eb k)) (h':=h') (fun m=>?_) (O v H B h2);show dL P (run P K m) _ _ _ _ (.beginRound::Eb k) _=_;simp only[dL,θ,h1];cases h1;cases u
end
end Go.Ab
end
section
namespace Go.Ab
noncomputable section
variable {P:Program} {K:FuncId->List Value->Option iJ}
theorem Ti {f:FuncId}:∀p:List Nat,Good P f (ctx P f p).2
 |[]=>trivial
 |b::p=>by
  have e:=Ti (f:=f) p;have d:∀c,ctx P f (c::p)=nI c p (ctx P f p):=fun _=>rfl;rw[d];generalize g:ctx P f p=x at e d;obtain⟨c,k⟩:=x;rcases b with _|_|b<;>cases c<;>simp_all [nI,Good]
def D (P:Program) (K:FuncId->List Value->Option iJ) (T:FuncId->FT) (f:FuncId) (i:Nat) (d:List Nat) (Q:Value->AH->Prop) (vs:List Value) (h:AH):Prop:=PtI P K (T f) f none (ag P f Q) i d vs h
def R (P:Program) (K:FuncId->List Value->Option iJ) (T:FuncId->FT) (f:FuncId) (i:Nat) (l:Nat) (Q:Value->AH->Prop) (vs:List Value) (h:AH):Prop:=PtI P K (T f) f (some l) (E3 l Q) i [] vs h
def fW (P:Program) (f:FuncId) (q:Nat->Code->Prop):Prop:=match P.funcs[f]? with
 |some ⟨_,_,_,_,_,_,n,_,some c,_,_,_,_,_,_,_⟩=>q n c
 |_=>hF
theorem aC9 {f:FuncId} {q:Nat->Code->Prop} (h:fW P f q):∃d c,P.funcs[f]?=some d/\d.body=some c/\ntm P f=d.ntmps/\Me P f=some c/\q d.ntmps c:=by
 unfold fW at h;split at h;rename_i e;exact⟨_,_,e,rfl,by simp only[ntm,e,Option.elim_some],by simp only[Me,e,Option.bind_some],h⟩;cases h
def Z0 (m:Nat):List Nat->List Value->Ek->(Ek->Prop)->Prop
 |[],[],a,q=>q a
 |t::d,v::e,a,q=>(match Nat.blt t m with
  |true=>Z0 m d e ((t,v,.un)::a) q
  |false=>hF)
 |_,_,_,_=>hF
theorem Rn {m:Nat}:∀{lv:List Nat} {vs:List Value} {a:Ek} {env:List Value} {q:Ek->Prop},eW a env->env.length=m->Z0 m lv vs a q->∃g,eW g ((lv.zip vs).foldl (fun t (p,v)=>t.set p v) env)/\((lv.zip vs).foldl (fun t (p,v)=>t.set p v) env).length=m/\lv.length=vs.length/\q g
 |[],[],a,env,q,o,j,d=>⟨a,o,j,rfl,d⟩
 |t::lv,v::vs,a,env,q,o,j,d=>by
  unfold Z0 at d;split at d;rename_i e;have z:t<m:=Nat.le_of_ble_eq_true e;obtain⟨g,r,u,w,y⟩:=Rn (o.cons (k:= .un) (v:=v) (j.symm▸z) (fun _ e=>by cases e) (fun e=>by cases e)) (by simpa using j) d;exact⟨g,r,u,by simp[w],y⟩;cases d
 |[],_::_,_,_,_,_,_,d=>d.elim
 |_::_,[],_,_,_,_,_,d=>d.elim
theorem yw {env:List Value} {t:Nat} {v:Value} (h:∀u,env[t]?=some u->u=v):env.set t v=env:=by
 refine List.ext_getElem? fun i=>?_;rw[List.getElem?_set];by_cases e:t=i;subst e;rw[aNa rfl];cases he:env[t]? with
 |none=>rw[aN9 (by simpa using he)]
 |some u=>rw[aNa (List.getElem?_eq_some_iff.1 he).1,h u he]
 rw[aN9 e]
theorem K9 {e:Nat->Value} {m:Nat}:∀{lv:List Nat} {vs:List Value},lv.map e=vs->(lv.zip vs).foldl (fun t (p,v)=>t.set p v) ((List.range m).map e)=(List.range m).map e
 |[],_,_=>rfl
 |t::lv,vs,h=>by
  subst h;rw[List.map_cons,List.zip_cons_cons,List.foldl_cons];show List.foldl _ (((List.range m).map e).set t (e t)) _=_;rw[yw,K9 rfl];intro u d;simp only[List.getElem?_map] at d;rcases Nat.lt_or_ge t m with g|g;rw[List.getElem?_range g] at d;cases d;rfl;rw[List.getElem?_eq_none (by simpa using g)] at d;cases d
theorem eW.nil {env:List Value}:eW [] env:=fun _ _ _ h=>by cases h
def wD (P:Program) (K:FuncId->List Value->Option iJ) (T:FuncId->FT) (f:FuncId) (i:Nat) (d:List Nat) (Q:Value->AH->Prop) (vs:List Value) (h:AH):Prop:=match(T f).L[i]? with
 |some (num,e)=>fcL (kI num).reverse fun p=>(match ctx P f p with
  |(c,k)=>fW P f fun m _=>Z0 m e vs [] fun a=>wT P K (fun d a k h=>wE (T f) a k fun i vs=>D P K T f i d Q vs h) (aCf P f (T f).hr Q) (T f) f m none 200 d a (.code p c::k) h)
 |none=>hF
theorem bW {f:FuncId} {T:FuncId->FT} {i:Nat} {j:List Nat} {Q:Value->AH->Prop} {vs:List Value} {h:AH} (d:wD P K T f i j Q vs h):D P K T f i j Q vs h:=by
 unfold wD at d;split at d;rename_i num B z;have d:=J7 d;generalize r:ctx P f (kI num).reverse=x at d;obtain⟨c,k⟩:=x;obtain⟨w,_,_,_,v,_,d⟩:=aC9 d;unfold D PtI;simp only[z,Option.getD_some,r];intro e y;rw[v];obtain⟨a,t,u,_,d⟩:=Rn (env:=(List.range w.ntmps).map e) eW.nil (by simp) d;rw[K9 y] at t u;have m:=Ti (P:=P) (f:=f) (kI num).reverse;rw[r] at m;exact aAq (fun j a g k h o A m hE=>aCb o (A.trans v.symm) m hE) (fun B j a g h o hF=>rz o hF) 200 (k:= .code (kI num).reverse c::k) t u ⟨r,m⟩ d;cases d
def wRd (P:Program) (K:FuncId->List Value->Option iJ) (T:FuncId->FT) (f:FuncId) (i:Nat) (l:Nat) (Q:Value->AH->Prop) (vs:List Value) (h:AH):Prop:=match(T f).L[i]? with
 |some (num,e)=>fcL (kI num).reverse fun p=>(match ctx P f p with
  |(c,k)=>fW P f fun m _=>Z0 m e vs [] fun a=>wT P K (fun d a k h=>(match d with
   |[]=>wE (T f) a k fun i vs=>R P K T f i l Q vs h
   |_=>hF)) (fun e d _ h=>P9 l Q e d [] h) (T f) f m (some l) 200 [] a (.code p c::k) h)
 |none=>hF
theorem ry {f:FuncId} {T:FuncId->FT} {l:Nat} {Q:Value->AH->Prop} {m:Nat} (o:ntm P f=m):∀e a d k h,eW a d->d.length=m->Good P f k->(match e with
   |[]=>wE (T f) a k fun i t=>R P K T f i l Q t h
   |_=>False)->Ok P K (.todo f (some l) e d (Eb k)) h (E3 l Q):=by
 intro e a d k h g r j hE
 split at hE
 .exact aCb g (r.trans o.symm) j hE
 .cases hE
def aAf:Nat->List Value->Ek->(Ek->Prop)->Prop
 |_,[],a,q=>q a
 |i,v::l,a,q=>nK (i+1) fun j=>aAf j l ((i,v,.un)::a) q
theorem eW.add {a:Ek} {env:List Value} (m:eW a env) {d:Nat} {v:Value} (o:env[d]?=some v):eW ((d,v,.un)::a) env:=by
 intro t u j g;unfold Ek.lk at g;split at g;rename_i e;have:=Nat.eq_of_beq_eq_true e;subst this;cases g;exact⟨o,fun x e=>(by cases e),fun e=>(by cases e)⟩;exact m t u j g
theorem Zy {env:List Value}:∀{l:List Value} {i:Nat} {a:Ek} {q:Ek->Prop},eW a env->(∀j v,l[j]?=some v->env[i+j]?=some v)->aAf i l a q->∃g,eW g env/\q g
 |[],_,a,_,d,_,e=>⟨a,d,e⟩
 |v::l,i,a,q,d,m,e=>Zy (l:=l) (d.add (m 0 v rfl)) (fun j u o=>by have:=m (j+1) u (by simpa using o);rwa [show i+1+j=i+(j+1) by omega]) (oq e)
def lh (n m:Nat):List Nat->Ek->(Ek->Prop)->Prop
 |[],a,q=>hP (q a)
 |t::d,a,q=>(match Nat.ble n t with
  |true=>(match Nat.blt t m with
   |true=>lh n m d ((t,undef,.un)::a) q
   |false=>hF)
  |false=>lh n m d a q)
theorem Qn {args:List Value} {m:Nat}:∀{lv:List Nat} {a:Ek} {q:Ek->Prop},eW a (args++List.replicate (m - args.length) undef)->lh args.length m lv a q->∃j,eW j (args++List.replicate (m - args.length) undef)/\q j
 |[],a,_,e,d=>⟨a,e,d⟩
 |t::lv,a,q,e,d=>by
  unfold lh at d;split at d;rename_i g;have g:=Nat.le_of_ble_eq_true g;split at d;rename_i o;have o:t<m:=Nat.le_of_ble_eq_true o;refine Qn (e.add ?_) d;rw[List.getElem?_append_right g,List.getElem?_replicate,aae];cases d;exact Qn e d
def wC (P:Program) (K:FuncId->List Value->Option iJ) (T:FuncId->FT) (f:FuncId) (args:List Value) (Q:Value->AH->Prop) (h:AH):Prop:=match K f args with
 |none=>fW P f fun m c=>(match Nat.ble args.length m with
  |true=>aAf 0 args [] fun a=>nK args.length fun n=>lh n m (((T f).L[0]?).getD (0,[])).2 a fun a=>wT P K (fun d a k h=>wE (T f) a k fun i e=>D P K T f i d Q e h) (aCf P f (T f).hr Q) (T f) f m none 200 [] a [.code [] c] h
  |false=>hF)
 |some _=>hF
theorem cW {f:FuncId} {T:FuncId->FT} {args:List Value} {Q:Value->AH->Prop} {h:AH} (d:wC P K T f args Q h):Cl P K f args h Q:=by
 unfold wC at d;split at d;rename_i w;obtain⟨r,c,z,y,B,o,d⟩:=aC9 d;refine eu z y w ?_;split at d;rename_i hle;have hle:args.length<=r.ntmps:=Nat.le_of_ble_eq_true hle;obtain⟨a,g,d⟩:=Zy (env:=args++List.replicate (r.ntmps - args.length) undef) eW.nil (fun j v t=>by
  rw[Nat.zero_add,List.getElem?_append_left (List.getElem?_eq_some_iff.1 t).1];exact t) d
 obtain⟨a,g,d⟩:=Qn g (oq d);exact aAq (fun u a e k h m D A hE=>aCb m (D.trans B.symm) A hE) (fun E u a e h m hF=>rz m hF) 200 (k:=[.code [] c]) g (by simp;omega) ⟨by simp only[ctx,o,Option.getD_some],trivial⟩ d;cases d;cases d
def wR0 (P:Program) (K:FuncId->List Value->Option iJ) (T:FuncId->FT) (f:FuncId) (num m:Nat) (lv:List Nat) (vs:List Value) (l:Nat) (args:List Value) (Q:Value->AH->Prop) (h:AH):Prop:=fcL (kI num).reverse fun p=>(match ctx P f p with
 |(.rangeFunc _ o e d,_)=>fW P f fun j _=>(match Nat.beq j m with
  |true=>Z0 m lv vs [] fun a=>Z0 m o.toList args a fun a=>wT P K (fun g a k h=>(match g with
   |[]=>wE (T f) a k fun i vs=>R P K T f i l Q vs h
   |_=>hF)) (fun lv g _ h=>P9 l Q lv g [] h) (T f) f m (some l) 200 [] a [.code (0::p) e,.beginRound,.code (1::p) d] h
  |false=>hF)
 |_=>hF)
theorem rW {f:FuncId} {T:FuncId->FT} {num m l d:Nat} {lv:List Nat} {vs args:List Value} {e:Nat->Value} {st:LoopState} {pd:Option Code} {Q:Value->AH->Prop} {h:AH} (y:h.get l=some (lp P f (kI num) m e d st pd)) (B:List.map e lv=vs)
  (g:wR0 P K T f num m lv vs l args Q h):yG P K (.func (.yield l) #[] #[]) args h Q:=by
 unfold wR0 at g
 have g:=J7 g
 split at g
 .rename_i z F r j k w;obtain⟨I,_,_,_,E,_,g⟩:=aC9 g;split at g
  .rename_i v;have v:=Nat.eq_of_beq_eq_true v;obtain⟨a,t,u,_,g⟩:=Rn (env:=(List.range m).map e) eW.nil (by simp) g;rw[K9 B] at t u;obtain⟨a,t,u,D,g⟩:=Rn t u g;have A:cd P f (kI num)= .rangeFunc z F r j:=by
    have:=Qe (P:=P) (f:=f) (kI num).reverse;rw[w,List.reverse_reverse] at this;exact this.symm
   simp only[lp,A,rgF] at y
   refine lx (y3 y (by simpa using D.symm) ?_)
   exact aAq (ry (E.trans v)) (fun lv H a o h J hF=>by have:=R9 (env:=o) hF;exact this) 200 (k:=[.code (0::(kI num).reverse) r,.beginRound,.code (1::(kI num).reverse) j]) t u
    ⟨by simp only[ctx,w,nI],by simp only[ctx,w,nI],trivial⟩ g
  .cases g
 .cases g
def wC0 (P:Program) (K:FuncId->List Value->Option iJ) (T:FuncId->FT) (f:FuncId) (args:List Value) (Q:Value->AH->Prop) (h:AH):Prop:=match K f args with
 |none=>fW P f fun m c=>(match Nat.ble args.length m with
  |true=>aAf 0 args [] fun a=>nK args.length fun n=>lh n m (((T f).L[0]?).getD (0,[])).2 a fun a=>wE (T f) a (lB 60 [.code [] c]) fun i d=>D P K T f i [] Q d h
  |false=>hF)
 |some _=>hF
theorem cD {f:FuncId} {T:FuncId->FT} {args:List Value} {Q:Value->AH->Prop} {h:AH} (d:wC0 P K T f args Q h):Cl P K f args h Q:=by
 unfold wC0 at d;split at d;rename_i u;obtain⟨m,c,y,w,A,g,d⟩:=aC9 d;refine eu y w u ?_;split at d;rename_i hle;have hle:args.length<=m.ntmps:=Nat.le_of_ble_eq_true hle;obtain⟨a,e,d⟩:=Zy (env:=args++List.replicate (m.ntmps - args.length) undef) eW.nil (fun j v o=>by
  rw[Nat.zero_add,List.getElem?_append_left (List.getElem?_eq_some_iff.1 o).1];exact o) d
 obtain⟨a,e,d⟩:=Qn e (oq d);have z:Good P f [.code [] c]:=⟨by simp only[ctx,g,Option.getD_some],trivial⟩;obtain⟨r,t⟩:=mQ (P:=P) (f:=f) 60 z;refine Cb 60 ?_;have:=aCb e (by simp;omega) t d;rw[r] at this;exact this;cases d;cases d
end
end Go.Ab
end
section
namespace Go.Ab
variable {P:Program} {K:FuncId->List Value->Option iJ} {G:Bg} {h:AH} {L L' M:List HP}
theorem aJd {W n i c:Nat} {e:TypeId} {a:Option Addr} {cs z:List Value} {k:Value->AH->Prop} (hW:0<W) (g:∀m,(dY z m).length=m*W/\(dY z m).all dV=true) (hi:i<n) (u:Hs G h L) [m:Has (cU W e a c) L (n,cs) L']
  (hk:∀Q,Hs G Q (cU W e a c (i,cs.take (i*W))::L')->k (.slice a i c) Q):
  aY (uU W h (.slice a n c) (some (I i)) none none) fun v0=>aY (gW z h v0) fun Y=>(fun _ T=>aY (uU W T (.slice a n c) none (some (I i)) none) fun v4=>k v4 T) Y.1 Y.2:=by
 have u:=m.of u
 have hl:=u.Ce
 have U:=u.Ex
 simp only at hl U
 have d:n<=c:=by
  obtain⟨r,r2,⟨_,_,hr⟩,_⟩:=u.fst;rcases hr with⟨g,_⟩|⟨g,_⟩|⟨d,_⟩;simp only at g;omega;simp only at g;omega;exact d
 obtain⟨b,o,rfl,H,E,close⟩:=u.oJ (by omega)
 have V:0<n*W:=Nat.mul_pos (by omega) hW
 have D:0<cs.length:=by omega
 have O:jZ none c c=some c:=rfl
 have Z:jZ (some (I i)) n c=some i:=by simp only[jZ];rw[aae];simp
 have b3:jZ none 0 i=some 0:=rfl
 have b4:jZ none n c=some n:=rfl
 have b5:jZ (some (I i)) 0 n=some i:=by simp only[jZ];rw[aae];simp
 have B:¬c=i:=by omega
 have A:¬c=0:=by omega
 have β:i*W<=n*W:=Nat.mul_le_mul_right W (by omega)
 have X:(n - i)*W=n*W - i*W:=Nat.sub_mul _ _ _
 refine⟨.slice (some ⟨b,o+i*W,none⟩) (n - i) (c - i),?_,?_⟩
 .simp only[uU,O,b4,b5,Option.isNone_none,Option.isSome_none,Bool.and_false,Bool.false_eq_true,if_false,cT,B];rw[aNa d]
 obtain⟨y,J,w⟩:=E.write (j:=i*W) (vs:=dY z (n - i)) (by rw[(g _).1];omega) (g _).2 D
 refine⟨(.tuple #[],y),?_,?_⟩
 .simp only[gW,aN9 (show ¬n - i=0 by omega),J,Option.map_some]
 refine⟨.slice (some ⟨b,o,none⟩) i c,?_,hk y ?_⟩
 .simp only[uU,O,Z,b3,Option.isNone_some,Bool.false_and,Option.isSome_none,Bool.false_eq_true,if_false,A,cT];rw[aae];simp
 have F:bV cs (i*W) (dY z (n - i))=cs.take (i*W)++dY z (n - i):=by
  unfold bV;rw[List.drop_eq_nil_of_le (by rw[(g _).1];omega),List.append_nil]
 rw[F] at w
 have t:(cs.take (i*W)).length=i*W:=by rw[List.length_take];omega
 refine Mh (n:=n) (zs:=dY z (n - i)) (by omega) (by omega) t (close y _ _ ?_ ?_ w)
 .rw[List.length_append,t,(g _).1];omega
 .rw[List.all_append,(g _).2,Bool.and_true];exact List.all_eq_true.2 fun v hv=>List.all_eq_true.1 U v (List.mem_of_mem_take hv)
instance {p:Nat}:Cv (fN p) [fN p]:=⟨rfl⟩
theorem aJy {cs:List Value} {e:TypeId} {v:Value} {k:Nat->AH->Prop} (j:Hs G h L) [m:Cv v cs] (g:∀p d,Hs G d (aF p 0 cs::mt p (e,true,cs.length)::L)->k p d):aY (jD e v) fun b=>Bj h b k:=
 ⟨.cells cs e (0,0) true,by simp[jD,m.eq],g _ _ j.new⟩
end Go.Ab
end
section
namespace Go.Ab
variable {P:Program} {K:FuncId->List Value->Option iJ} {G:Bg} {h:AH} {L L' M:List HP}
theorem Hs.aFs {r n i:Nat} {D:List Nat} {o:mR} (ho:Ja o=true) (u:Hs G h (frs r n D::L)) (Z:i<n) (hD:i∉D):
  Hs G (h.set (r+i) (some o)) (ot (r+i) o::frs r n (i::D)::L):=by
 obtain⟨q,⟨r1,O,U,V,B,W⟩,X⟩:=u.res
 cases U
 subst W
 obtain⟨i1,i2⟩:=(cH.eY B).1 X
 obtain⟨q1,q2,F,⟨q3,q4,H,I,β,z⟩,Y,J⟩:=Wi (r:=r) Z hD
 cases F;cases I
 rw[cH.add_comm (s:=cH.emp) cH.dG.symm,cH.fQ] at z
 subst z
 cases H
 rw[J] at i1 B
 obtain⟨i3,i4⟩:=(cH.eY Y).1 i1
 obtain⟨fb,fn,T⟩:=i3.free (r+i) (by simp)
 obtain⟨d1,d2⟩:=cH.iC.1 B.symm
 have d:∀j,(h.set (r+i) (some o)).get j=if j=r+i then some o else h.get j:=fun j=>AH.gM (Nat.le_trans u.le fb)
 have m:=(cH.eY d2.symm).2 ⟨i4,i2⟩
 have w:((⟨fun _ _=>none,fun b=>if r<=b/\b<r+n/\(b - r)∉(i::D) then some .free else none⟩:cH).add O).tok (r+i)=none:=by
  simp only[cH.add];rw[aN9 (by rw[Nat.add_sub_cancel_left];simp)];rcases d1.tok (r+i) with h|h;simpa using h;simp at h
 have y:(⟨fun _ _=>none,fun Q=>if Q=r+i then some (.M6 o) else none⟩:cH).uV ((⟨fun _ _=>none,fun b=>if r<=b/\b<r+n/\(b - r)∉(i::D) then some .free else none⟩:cH).add O):=by
  refine⟨fun _ _=> .inl rfl,fun b=>?_⟩;by_cases t:b=r+i;right;rw[t];exact w;left;simp only;rw[aN9 t]
 refine⟨by simp;exact u.base,fun j A=>by rw[d,aab];exact u.old j A,by simp;exact u.wf,fun j A=>by simp at A;rw[d,aab];exact u.fr j A,
    _,⟨_,_,rfl,⟨_,O,rfl,V,d2.symm,rfl⟩,y,rfl⟩,(cH.eY y).2 ⟨?_,?_⟩⟩
 .refine⟨fun _ _ _ e=>(by cases e),fun b e=>?_,fun b e' x' n e=>?_,fun b o' e=>?_⟩
  .simp only at e;split at e<;>cases e
  .simp only at e;split at e<;>cases e
  .simp only at e;split at e
   .rename_i t;subst t;cases e;exact⟨fb,by rw[d,aNa rfl],ho⟩
   .cases e
 .refine m.of (by simp) (by simp) fun b t=>?_;rw[d,aN9];intro E;subst E;rcases t with t|⟨o,t⟩
  .exact t w
  .apply t;cases hc:cH.cell _ (r+i) o with
   |none=>rfl
   |some v=>obtain⟨_,_,_,_,g,_⟩:=m.cell _ o v hc;rw[T] at g;cases g
theorem Y7 {r i n:Nat} {D:List Nat} {k:Nat->AH->Prop} (j:Hs G h L) [m:Has (ia r) L (n,D) L'] (e:Nat.blt i n=true) (hD:D.contains i=false)
  (g:∀p d,Hs G d (iD p (fun _=>none)::ia r (n,i::D)::L')->k p d):kK h (r+i) (.map [] 0) k:=
 g _ _ (sL (es:=[]) (cl:=0) ⟨by simp,by simp,by simp,by simp⟩ (fun _=>rfl) (Hs.aFs (o:= .map [] 0) rfl (show Hs G h (frs r n D::L') from m.of j) (by have:=Nat.le_of_ble_eq_true e;omega) (by simpa using hD)))
end Go.Ab
end
section
namespace Go.Ab
variable {P:Program} {K:FuncId->List Value->Option iJ} {G:Bg} {h:AH} {L L' M:List HP}
def pE (p:Nat):List Value:=[pt p 0 0]
instance:Fx pE 1 where
 len _:=rfl
 cel _:=rfl
theorem xi {e:TypeId} {a:Option Addr} {c i:Nat} {l:List Nat} {k:Value->Prop} (d:Hs G h L) [m:Has (ls pE 1 e a c) L l L'] (r:i<l.length) (u:k (pt (l.getD i 0) 0 0)):aY (kA 1 (.slice a l.length c) (I i)) fun p=>aY (oM h p) k:=by
 have v:l[i]?=some (l.getD i 0):=by rw[List.getD_eq_getElem?_getD,List.getElem?_eq_getElem r];rfl
 have d:Hs G h (cU 1 e a c (l.length,eL pE l)::L'):=m.of d;obtain⟨b,o,rfl,g⟩:=d.eZ (by omega);refine dF r ?_;rw[show pt b (o+i*1) 0=pt b o (i*1) by simp[pt]];have t:(eL pE l)[i*1]?=some (pt (l.getD i 0) 0 0):=S0 (enc:=pE) (W:=1) (j:=0) v rfl;exact aC (b:=b) (o:=o) (j:=i*1) g t u
theorem va {e:TypeId} {a:Option Addr} {c i q:Nat} {l:List Nat} {k:AH->Prop} (j:Hs G h L) [m:Has (ls pE 1 e a c) L l L'] (t:i<l.length) (w:∀g,Hs G g (ls pE 1 e a c (l.set i q)::L')->k g):aY (kA 1 (.slice a l.length c) (I i)) fun p=>aY (tZ h 1 p (pt q 0 0)) k:=by
 have j:Hs G h (cU 1 e a c (l.length,eL pE l)::L'):=m.of j;obtain⟨b,o,rfl,r⟩:=j.eZ (by omega);refine dF t ?_;rw[show pt b (o+i*1) 0=pt b o (i*1) by simp[pt]];have u:(eL pE l).length=l.length*1:=C5;refine bC r (vs:=[pt q 0 0]) rfl (Nat.ble_eq_true_of_le (by omega)) rfl (Nat.ble_eq_true_of_le (by omega)) fun g d=>w g ?_;have v:dH (eL pE l) (i*1) [pt q 0 0]=eL pE (l.set i q):=sx (y:=q) t;rw[v] at d;unfold ls;rw[List.length_set];exact Hs.nH d (by rw[C5,List.length_set]) Ls
def nF {α:Type} (R:Nat->Nat->α->HP) (l:List Nat) (s:Nat->α):HP:=dC l.length fun k=>R k (l.getD k 0) (s k)
def Dg {α:Type} (R:Nat->Nat->α->HP) (l:List Nat) (s:Nat->α) (i:Nat):HP:=sp (((List.range l.length).erase i).map fun k=>R k (l.getD k 0) (s k))
variable {α:Type} {R:Nat->Nat->α->HP} {l:List Nat} {s:Nat->α} {i q:Nat} {x:α}
theorem gN (d:i<l.length) (e:Hs G h L) [m:Has (nF R l) L s L']:Hs G h (R i (l.getD i 0) (s i)::Dg R l s i::L'):=(show Hs G h (dC l.length (fun k=>R k (l.getD k 0) (s k))::L') from m.of e).mD i d
theorem zu (d:i<l.length) (m:Hs G h (R i q x::Dg R l s i::L)):Hs G h (nF R (l.set i q) (fun j=>if j=i then x else s j)::L):=by
 unfold nF;rw[List.length_set];refine Hs.aEb (i:=i) (f:=fun k=>R k (l.getD k 0) (s k)) d (fun j g=>?_) ?_;simp only[aN9 g,List.getD_eq_getElem?_getD,List.getElem?_set];rw[aN9 (fun e=>g e.symm)];simp only[if_true,List.getD_eq_getElem?_getD,List.getElem?_set,d,Option.getD_some];exact m
theorem zE (d:i<l.length) (g:Hs G h (R i (l.getD i 0) x::Dg R l s i::L)):Hs G h (nF R l (fun j=>if j=i then x else s j)::L):=by
 have:=zu d g;rwa [show l.set i (l.getD i 0)=l by
  refine List.ext_getElem? fun j=>?_;rw[List.getElem?_set];split;rename_i e;subst e;rw[List.getD_eq_getElem?_getD,List.getElem?_eq_getElem d];rfl;rfl] at this
theorem Ig (d:Hs G h L):Hs G h (nF R [] s::L):=Hs.Wj d
theorem Iw (m:Hs G h (R l.length q (s l.length)::nF R l s::L)):Hs G h (nF R (l++[q]) s::L):=by
 unfold nF;rw[List.length_append,List.length_singleton];refine Hs.V9 ?_;have e:(l++[q]).getD l.length 0=q:=by simp[List.getD_eq_getElem?_getD]
 rw[e];have d:=m.perm (List.Perm.swap _ _ _);refine(sF (f:=fun k=>R k (l.getD k 0) (s k)) (fun j g=>?_) d).perm (List.Perm.swap _ _ _);simp only[List.getD_eq_getElem?_getD,List.getElem?_append_left g]
end Go.Ab
end
section
namespace Go.Ab
abbrev tx (l:List UInt8):Value:= .string ⟨l.toArray⟩
theorem aF9 {l:List UInt8} {k:Value->Prop} (d:k (I l.length)):aY (vN (tx l)) k:=⟨_,rfl,by simpa [ByteArray.size] using d⟩
theorem X8 {a b:List UInt8}:(⟨a.toArray⟩:ByteArray)++⟨b.toArray⟩=⟨(a++b).toArray⟩:=by
 apply ByteArray.ext;rw[ByteArray.data_append];simp
theorem jE {a b:List UInt8} {k:Value->Prop} (h:a.length+b.length<=2^62) (d:k (tx (a++b))):aY (I5 .add (tx a) (tx b)) k:=by
 refine⟨_,?_,d⟩;show Ns .add _ _=_;have:(⟨a.toArray⟩:ByteArray).size+(⟨b.toArray⟩:ByteArray).size=a.length+b.length:=rfl;simp only[Ns];rw[aNa (by rw[this];exact h),X8]
theorem aEd {a b:List UInt8}:((⟨a.toArray⟩:ByteArray).toList==(⟨b.toArray⟩:ByteArray).toList)=decide (a=b):=by
 rw[Lib.toList_data,Lib.toList_data,Bool.eq_iff_iff,decide_eq_true_eq,beq_iff_eq]
theorem aJh {a b:List UInt8} {k:Value->Prop} (d:k (.bool (decide (a=b)))):aY (I5 .eql (tx a) (tx b)) k:=by
 refine⟨_,?_,d⟩;show Ns .eql _ _=_;simp only[Ns];rw[aEd]
theorem aIe {a b:List UInt8} {k:Value->Prop} (d:k (.bool (decide (a≠b)))):aY (I5 .neq (tx a) (tx b)) k:=by
 refine⟨_,?_,d⟩;show Ns .neq _ _=_;simp only[Ns];rw[aEd];simp
theorem xp {s:ByteArray}:nN (.string s) (.string s)=true:=by simp only[nN];unfold BEq.beq ByteArray.instBEq ByteArray.beq;simp
theorem aD6 {v:Int} {k:Value->Prop} (h:0<=v/\v<256) (d:k (.int .u8 v)):aY (lS .u8 (I v)) k:=⟨_,by
 show some (Value.int .u8 (IntKind.wrap .u8 v))=_;rw[show IntKind.wrap .u8 v=v by simp[IntKind.wrap,IntKind.signed,IntKind.bits];omega],d⟩
theorem aGk {u:Nat} {k:Value->Prop} (h:u<=9223372036854775808) (d:k (I (-((u/10:Nat):Int)))):aY (tD .quo (I (-(u:Int))) (I 10)) k:=by
 refine⟨_,?_,d⟩;show Eh .quo .i64 (-(u:Int)) 10=_;simp only[Eh];rw[aN9 (by decide),Int.neg_tdiv,show(u:Int).tdiv 10=((u/10:Nat):Int) from rfl];show some (I (wr _))=_;rw[On (by omega)]
theorem aH9 {u:Nat} {k:Value->Prop} (d:k (I (-((u % 10:Nat):Int)))):aY (tD .rem (I (-(u:Int))) (I 10)) k:=by
 refine⟨_,?_,d⟩;show Eh .rem .i64 (-(u:Int)) 10=_;simp only[Eh];rw[aN9 (by decide),Int.neg_tmod,show(u:Int).tmod 10=((u % 10:Nat):Int) from rfl]
theorem aAh:∀(k n:Nat),n<10^(k+1)->Lib.nDigits n<=k+1:=by
 intro k;induction k with
 |zero=>intro n h;rw[Lib.nDigits];split<;>omega
 |succ k d=>
  intro n h;rw[Lib.nDigits];split;omega;have:=d (n/10) (by omega);omega
theorem A7 {u:Nat} (h:u<=9223372036854775808):(Lib.decDigits u).length<=19:=by
 rw[Lib.decDigits_length];exact aAh 18 u (by omega)
theorem vV {n:Int} (h: -9223372036854775808<=n/\n<=9223372036854775807):(Lib.itoa n).length<=20:=by
 unfold Lib.itoa;have d:=A7 (u:=n.natAbs) (by omega);split;simp;omega;have e:=A7 (u:=n.toNat) (by omega);omega
variable {G:Bg} {h:AH} {L L':List HP}
theorem zo {e:TypeId} {a:Addr} {c:Nat} {v:Nat} {k:Value->Prop} (_m:v<256) (j:Hs G h (cU 1 e (some a) c (1,[.int .u8 v])::L)) (g:k (tx [UInt8.ofNat v])):aY (strOf h (.slice (some a) 1 c)) k:=by
 have d:=Sr j;simp only[fA] at d;rw[aN9 (by decide),aNa (by decide)] at d;refine⟨_,?_,g⟩;simp only[strOf];rw[aN9 (by decide)];have d:bZ h a 1=some [.int .u8 v]:=d;rw[d];rfl
def mks (e:List Nat):HP:=sp (e.map fun d=>mk d ())
theorem aI3 {k:AH->Prop}:∀(g:List Nat) {h:AH},Hs G h (mks g::L)->(∀m,Hs G m L->k m)->aY (bS g h) k:=by
 intro g;induction g with
 |nil=>intro h e j;exact iF (j _ e.tail)
 |cons d g o=>
  intro h e j;have e:Hs G h (mk d ()::((g.map fun d=>mk d ())++L)):=Hs.unpack e;exact kN e fun h e=>o (Hs.pack e) j
theorem s7 {d:Nat} {e:List Nat} (g:Hs G h (mk d ()::mks e::L)):Hs G h (mks (d::e)::L):=by
 have:Hs G h (mks e::mk d ()::L):=g.jN;have:=Hs.unpack this;refine Hs.pack (A:=mk d ()::e.map fun d=>mk d ()) ?_;exact this.perm (by
  show((e.map fun d=>mk d ())++(mk d ()::L)).Perm (mk d ()::((e.map fun d=>mk d ())++L));exact List.perm_middle)
theorem aB6 (d:Hs G h L):Hs G h (mks []::L):=Hs.pack (A:=[]) d
end Go.Ab
end
namespace Go.Is
open Go Go.Ab
section
def opsL:List (List UInt8×List Int):=[([],[0,0,0]),([115,101,116],[1,2,0]),([97,100,100],[1,1,1]),([108,111,97,100],[1,1,0]),([115,116,111,114,101],[1,1,0]),([115,119,97,112],[1,1,0]),([102,101,110,99,101],[0,0,0]),
  ([119,111,114,108,100],[3,0,0]),([99,97,108,108],[4,1,1]),([106,117,109,112],[5,0,0]),([122,101,114,111],[1,5,0]),([104,97,108,116],[0,0,0])]
def mY:List Value:=opsL.flatMap fun r=>tx r.1::r.2.map I
structure Ins where
 op:Int
 a:Int
 b:Int
 c:Int
 deriving DecidableEq
def Ins.enc (x:Ins):List Value:=[I x.op,I x.a,I x.b,I x.c]
def tG (o:Nat):List UInt8:=(opsL.getD o ([],[])).1
def Ag (o:Nat):List Int:=(opsL.getD o ([],[])).2
def Z5 (x:Int):Bool:=decide (1<=x/\x<12)
def oR (eI v many:Int):Bool:=
 if eI=1 then decide (0<=v/\v<4) else if eI=2 then true else if eI=3 then decide (1<=v/\v<=3) else if eI=4 then decide (1<=v/\v<=4) else if eI=5 then decide (0<=v/\v<=many) else decide (v=0)
def Ins.Cn (x:Ins):List Int:=[x.a,x.b,x.c]
def Ins.mF (x:Ins):List (Int×Int):=(Ag x.op.toNat).zip x.Cn
def lJ (x:Ins) (many:Int):Int:=if Z5 x.op then(if(x.mF.all fun p=>oR p.1 p.2 many) then 0 else 10) else 15
def dz (many:Int):List Ins->Nat->Int×Int
 |[],_=>(0,0)
 |x::l,i=>if lJ x many≠0 then((i:Int)+1,lJ x many) else dz many l (i+1)
def fO (p:List Ins):Int×Int:=if 32<p.length then(0,11) else dz p.length p 0
def used:List (Int×Int)->List Int
 |[]=>[]
 |p::l=>if p.1=0 then [] else p.2::used l
def kQ (vs:List Int):List UInt8:=vs.flatMap fun v=>32::Lib.itoa v
def Hk (x:Ins):List UInt8:=tG x.op.toNat++kQ (used x.mF)
def hQ (p:List Ins):List UInt8:=p.flatMap fun x=>Hk x++[10]
def Al (p:List Ins):List UInt8×Int:=if(fO p).2=0 then(hQ p,0) else([],(fO p).2)
def fU (n:Int):Prop:= -9223372036854775808<=n/\n<=9223372036854775807
def Ins.fU (x:Ins):Prop:=Is.fU x.a/\Is.fU x.b/\Is.fU x.c
theorem o12 {k:Nat} (h:k<12):k=0\/k=1\/k=2\/k=3\/k=4\/k=5\/k=6\/k=7\/k=8\/k=9\/k=10\/k=11:=by omega
theorem s6 {k:Nat} (h:k<12):mY[k*4]?=some (tx (tG k)):=by
 rcases o12 h with rfl|rfl|rfl|rfl|rfl|rfl|rfl|rfl|rfl|rfl|rfl|rfl<;>rfl
theorem Uy {k i:Nat} (h:k<12) (e:i<3):mY[k*4+(1+i*1)]?=some (I ((Ag k).getD i 0)):=by
 have d:i=0\/i=1\/i=2:=by omega
 rcases o12 h with rfl|rfl|rfl|rfl|rfl|rfl|rfl|rfl|rfl|rfl|rfl|rfl<;>rcases d with rfl|rfl|rfl<;>rfl
theorem Vf {k:Nat} (h:k<12):(Ag k).length=3:=by
 rcases o12 h with rfl|rfl|rfl|rfl|rfl|rfl|rfl|rfl|rfl|rfl|rfl|rfl<;>rfl
theorem zO {k:Nat} (h:k<12):(tG k).length<=5:=by
 rcases o12 h with rfl|rfl|rfl|rfl|rfl|rfl|rfl|rfl|rfl|rfl|rfl|rfl<;>decide
theorem sK {x:Ins} (h:Z5 x.op=true):x.mF.length=3:=by
 have:=of_decide_eq_true h;unfold Ins.mF;rw[List.length_zip,Vf (by omega)];rfl
theorem yW {x:Ins} (h:Z5 x.op=true) {i:Nat} (e:i<3):x.mF[i]?=some ((Ag x.op.toNat).getD i 0,x.Cn.getD i 0):=by
 have:=of_decide_eq_true h;have d:=Vf (k:=x.op.toNat) (by omega);unfold Ins.mF;rw[List.getElem?_zip_eq_some];refine⟨?_,?_⟩;show(Ag x.op.toNat)[i]?=some ((Ag x.op.toNat).getD i 0);rw[List.getD_eq_getElem?_getD,List.getElem?_eq_getElem (by omega)];rfl;show x.Cn[i]?=some (x.Cn.getD i 0);rw[List.getD_eq_getElem?_getD,List.getElem?_eq_getElem (by simp[Ins.Cn];omega)];rfl
theorem Un:∀(l:List (Int×Int)),(∀p∈l,p.1≠0)->used l=l.map (·.2)
 |[],_=>rfl
 |p::l,h=>by
  rw[used,aN9 (h p List.mem_cons_self),Un l fun q d=>h q (List.mem_cons_of_mem _ d)];rfl
theorem Ue {x:Int×Int} (d:x.1=0):∀(done rest:List (Int×Int)),(∀p∈done,p.1≠0)->used (done++x::rest)=done.map (·.2)
 |[],rest,_=>by rw[List.nil_append,used,aNa d];rfl
 |p::l,rest,h=>by
  rw[List.cons_append,used,aN9 (h p List.mem_cons_self),Ue d l rest fun q e=>h q (List.mem_cons_of_mem _ e)];rfl
theorem Ws:∀(l:List (Int×Int)) (v:Int),v∈used l->∃p∈l,p.2=v
 |[],v,h=>by simp[used] at h
 |p::l,v,h=>by
  rw[used] at h;split at h;simp at h;rcases List.mem_cons.1 h with rfl|h;exact⟨p,List.mem_cons_self,rfl⟩;obtain⟨q,d,e⟩:=Ws l v h;exact⟨q,List.mem_cons_of_mem _ d,e⟩
theorem Uz:∀(l:List (Int×Int)),(used l).length<=l.length
 |[]=>by simp[used]
 |p::l=>by
  rw[used];split;simp;have:=Uz l;simp;omega
theorem K4 {x:Ins} (h:x.fU) {p:Int×Int} (d:p∈x.mF):fU p.2:=by
 have:p.2∈x.Cn:=(List.of_mem_zip d).2;simp only[Ins.Cn,List.mem_cons,List.not_mem_nil,or_false] at this;obtain⟨g,j,m⟩:=h;rcases this with e|e|e<;>rw[e]<;>assumption
theorem oH:∀(l:List Int),(∀v∈l,fU v)->(kQ l).length<=l.length*21
 |[],_=>by simp[kQ]
 |v::l,h=>by
  have e:=oH l fun w d=>h w (List.mem_cons_of_mem _ d);have g:=vV (h v List.mem_cons_self);have:kQ (v::l)=32::Lib.itoa v++kQ l:=rfl;rw[this];simp;omega
theorem Wg {x:Ins} (d:Z5 x.op=true) (h:x.fU):(Hk x).length<=68:=by
 have m:=of_decide_eq_true d;have o:=zO (k:=x.op.toNat) (by omega);have e:=Uz x.mF;rw[sK d] at e;have r:=oH (used x.mF) fun v j=>by
  obtain⟨p,g,rfl⟩:=Ws _ _ j;exact K4 h g
 unfold Hk;rw[List.length_append];omega
theorem bh {many:Int}:∀(l:List Ins) (i:Nat),(dz many l i).2=0->∀x∈l,lJ x many=0
 |[],_,_,x,d=>by simp at d
 |y::l,i,h,x,d=>by
  rw[dz] at h;split at h;rename_i e;exact absurd h e;rename_i e;rcases List.mem_cons.1 d with rfl|d;omega;exact bh l (i+1) h x d
theorem qk {x:Ins} {many:Int} (h:lJ x many=0):Z5 x.op=true:=by
 unfold lJ at h;split at h;assumption;cases h
theorem jS {p:List Ins} (h:(fO p).2=0):p.length<=32/\∀x∈p,lJ x p.length=0:=by
 unfold fO at h;split at h;cases h;exact⟨by omega,bh p 0 h⟩
end
section
def sy (c:UInt8):List UInt8->List (List UInt8)
 |[]=>[[]]
 |b::l=>if b=c then []::sy c l else match sy c l with
  |[]=>[[b]]
  |w::ws=>(b::w)::ws
def zq (c:UInt8):List (List UInt8)->List UInt8
 |[]=>[]
 |w::ws=>w++ws.flatMap fun v=>c::v
end
section

end
end Go.Is
namespace Go.At
open Go Go.Ab Go.Hm Go.Is
section
structure Ev where
 core:Int
 at':Int
 op:Int
 world:Int
 word:Int
 value:Int
 code:Int
 deriving DecidableEq
def Ev.enc (x:Ev):List Value:=[I x.core,I x.at',I x.op,I x.world,I x.word,I x.value,I x.code]
def Fw:Ev:=⟨0,0,0,0,0,0,0⟩
structure aX where
 eB:Nat->Int
 at':Int
 world:Int
 over:Bool
 prog:List Ins
def aX.core (s:aX):List Value:=[I (s.eB 0),I (s.eB 1),I (s.eB 2),I (s.eB 3),I s.at',I s.world,.bool s.over]
def vM (p:List Ins) (a:Int):Ins:=p.getD a.toNat ⟨0,0,0,0⟩
def E7 (p:List Ins) (a:Int):Bool:=if(p.length:Int)<=a then true else decide ((vM p a).op=11)
def aX.rA (s:aX) (a:Int):aX:={s with at':=a,over:=E7 s.prog a}
def aX.dX (s:aX) (i v:Int):aX:={s with eB:=bY s.eB i.toNat v}
def aX.zc (s:aX) (v:Int):aX:={s with world:=v}
def Wy (mem:Nat->Ln) (w:Nat) (v:Int):Nat->Ln:=bY mem (w/2) (if w % 2=0 then(v,(mem (w/2)).2) else((mem (w/2)).1,v))
def Ep (mem:Nat->Ln) (g:Nat):Nat->Ln:=bY (bY mem (g*2) (0,0)) (g*2+1) (0,0)
structure AM where
 cfg:bM
 bJ:Nat->aX
 zI:List Int
 mem:Nat->Ln
def K1 (world owner:Int):Bool:=if 0<=world/\world<=3/\0<=owner/\owner<=4 then decide (world=0\/owner=world\/owner=4) else false
def mA (call world owner to:Int):Int×Bool×Int:=
 if ¬((0<=world/\world<=3)/\(0<=owner/\owner<=4)) then(0,false,10)
 else if call=1 then(if world≠0 then(0,false,18) else if owner≠0 then(0,false,16) else if ¬(1<=to/\to<=3) then(0,false,1) else(to,true,0))
 else if call=2 then(if owner=0 then(0,false,16) else if world≠0/\world≠owner then(0,false,18) else(0,true,0))
 else if call=3 then(if world=0\/world≠owner then(0,false,18) else if ¬(1<=to/\to<=3)\/to=owner then(0,false,1) else(to,true,0))
 else if call=4 then(if owner=4 then(0,false,16) else if world≠owner then(0,false,18) else(4,false,0))
 else(0,false,15)
def aX.Ok (s:aX):Prop:=0<=s.at'/\s.at'<=32/\s.over=E7 s.prog s.at'/\s.prog.length<=32/\∀x∈s.prog,lJ x s.prog.length=0
def uR:List (List Ins)->Int
 |[]=>0
 |p::l=>if(fO p).2≠0 then(fO p).2 else uR l
def within (a b:Int) (l:List Int):Bool:=l.all fun x=>decide (a<=x/\x<=b)
def wF (C:bM) (ps:List (List Ins)) (ws os vs:List Int):Int:=
 if ¬C.Ok then 10
 else if(ps.length:Int)≠C.aG\/(ws.length:Int)≠C.aG\/(os.length:Int)≠C.bU\/vs.length≠C.lines*2 then 1
 else if uR ps≠0 then uR ps
 else if ¬(within 0 3 ws=true/\within 0 4 os=true) then 10
 else 0
def words (mem:Nat->Ln):List Int->Nat->Nat->Ln
 |[],_=>mem
 |v::l,i=>words (Wy mem i v) l (i+1)
def tJ (p:List Ins) (w:Int):aX:={eB:=fun _=>0,at':=0,world:=w,over:=E7 p 0,prog:=p}
def aJo (C:bM) (ps:List (List Ins)) (ws os vs:List Int):AM:=⟨C,fun i=>tJ (ps.getD i []) (ws.getD i 0),os,words oN vs 0⟩
theorem Wh {x:Ins} {n:Int} (h:lJ x n=0):(1<=x.op/\x.op<12)/\oR ((Ag x.op.toNat).getD 0 0) x.a n=true/\oR ((Ag x.op.toNat).getD 1 0) x.b n=true/\oR ((Ag x.op.toNat).getD 2 0) x.c n=true:=by
 unfold lJ at h;split at h;rename_i e;split at h;rename_i g;have d:=List.all_eq_true.1 g;refine⟨of_decide_eq_true e,?_,?_,?_⟩;exact d _ (List.mem_of_getElem? (yW e (i:=0) (by omega)));exact d _ (List.mem_of_getElem? (yW e (i:=1) (by omega)));exact d _ (List.mem_of_getElem? (yW e (i:=2) (by omega)));cases h;cases h
structure Fits (x:Ins) (n:Int):Prop where
 r1:x.op=1\/x.op=2\/x.op=3\/x.op=4\/x.op=5\/x.op=10->0<=x.a/\x.a<4
 r2:x.op=2\/x.op=3\/x.op=4\/x.op=5\/x.op=8->0<=x.b/\x.b<4
 r3:x.op=2\/x.op=8->0<=x.c/\x.c<4
 p1:x.op=9->0<=x.a/\x.a<=n
 p2:x.op=10->0<=x.b/\x.b<=n
theorem Ui {x:Ins} {n:Int} (h:lJ x n=0):Fits x n:=by
 obtain⟨_,d,g,j⟩:=Wh h;refine⟨fun e=>?_,fun e=>?_,fun e=>?_,fun e=>?_,fun e=>?_⟩;rcases e with e|e|e|e|e|e<;>rw[e] at d<;>exact of_decide_eq_true d;rcases e with e|e|e|e|e<;>rw[e] at g<;>exact of_decide_eq_true g;rcases e with e|e<;>rw[e] at j<;>exact of_decide_eq_true j;rw[e] at d;exact of_decide_eq_true d;rw[e] at g;exact of_decide_eq_true g
theorem Sz {p:List Ins} {a:Int} (h:E7 p a=false):a<p.length:=by
 unfold E7 at h;split at h;cases h;omega
theorem J4 {p:List Ins} {a:Int} (d:0<=a) (h:a<p.length):vM p a∈p:=by
 unfold vM;rw[List.getD_eq_getElem?_getD,List.getElem?_eq_getElem (by omega)];exact List.getElem_mem _
end
end Go.At
namespace Go.Sc
open Go Go.Ab Go.Is Go.At
section
theorem xL {c:UInt8}:∀l:List (List UInt8),Lib.join l [c]=zq c l
 |[]=>rfl
 |w::ws=>by
  rw[Lib.join_cons];show w++(ws.map ([c]++·)).flatten=w++ws.flatMap fun v=>c::v;rw[List.flatMap_def];rfl
def nU (l:List Int):List UInt8:=zq 32 (l.map Lib.itoa)
theorem wX {x:Int} {l:List Int}:nU (x::l)=Lib.itoa x++kQ l:=by
 show Lib.itoa x++(l.map Lib.itoa).flatMap (fun v=>32::v)=_;rw[List.flatMap_map];rfl
theorem oH:∀{l:List Int},(∀v∈l,fU v)->(kQ l).length<=21*l.length
 |[],_=>by simp[kQ]
 |x::l,h=>by
  have e:=oH fun v d=>h v (List.mem_cons_of_mem _ d);have g:=vV (h x List.mem_cons_self);have:kQ (x::l)=32::Lib.itoa x++kQ l:=rfl;rw[this];simp only[List.length_cons,List.length_append];omega
theorem qL {l:List Int} (h:∀v∈l,fU v):(nU l).length<=21*l.length:=by
 cases l with
 |nil=>simp[nU,zq]
 |cons x l=>
  rw[wX];have e:=oH fun v d=>h v (List.mem_cons_of_mem _ d);have g:=vV (h x List.mem_cons_self);simp only[List.length_cons,List.length_append];omega
def Jt (w:List UInt8) (l:List Int):List UInt8:=w++kQ l++[10]
def evL (x:Ev):List Int:=[x.core,x.at',x.op,x.world,x.word,x.value,x.code]
def F3 (x:Ev):List UInt8:=nU (evL x)
theorem Xr {x:Ev}:F3 x++[10]=Jt (Lib.itoa x.core) [x.at',x.op,x.world,x.word,x.value,x.code]:=by
 unfold F3 evL Jt;rw[wX]
end
end Go.Sc
namespace Go.Ct
open Go Go.Ab Go.Hm
section
variable {n ways:Nat} {S:Nat->List Th} {s:lE} {C:bM} {core:Int}
def mJ (x to:Int):Int:=if to=1 then R5 x else 0
def cA (n:Nat) (S:Nat->List Th) (no:Int):rI×Int:=if no<0 then(rI.zero,10) else match get no (S (setOf n no)) with|some x=>(x,0)|none=>(rI.zero,12)
def Ik (n ways:Nat) (S:Nat->List Th) (no:Int):Option Th:=match get no (S (setOf n no)) with
 |some _=>none
 |none=>if(S (setOf n no)).length<ways then none else(S (setOf n no))[0]?
def kL (n:Nat) (S:Nat->List Th) (no:Int):Nat->List Th:=if no<0 then S else bY S (setOf n no) (rem no (S (setOf n no)))
def mV (n ways:Nat) (S:Nat->List Th) (no:Int) (x:rI):(Nat->List Th)×Int:=
 if(rem no (S (setOf n no))).length>=ways then(bY S (setOf n no) (rem no (S (setOf n no))),11) else(bY S (setOf n no) (rem no (S (setOf n no))++[(no,x)]),0)
theorem aLz {no:Int} {l:List Th} (h:l.length<=4):(rem no l).length<=4:=by rw[Iu];split<;>omega
theorem x8 {n:Nat} {S:Nat->List Th} {no:Int} (hb:∀i,(S i).length<=4):∀i,(kL n S no i).length<=4:=by
 intro i;unfold kL;split;exact hb i;unfold bY;split;exact aLz (hb _);exact hb i
def Gu (n ways:Nat) (S:Nat->List Th) (no:Int):Nat->List Th:=if(cA n S no).2=0 then(mV n ways (kL n S no) no (cA n S no).1).1 else kL n S no
def so (n ways:Nat) (S:Nat->List Th) (no:Int):Int:=if(cA n S no).2=0 then(mV n ways (kL n S no) no (cA n S no).1).2 else(cA n S no).2
def yO (C:bM) (l:Int):Bool:=decide (0<=l/\l<C.lines)
def lJ (n:Nat) (S:Nat->List Th) (l d:Int) (w:Bool):Bool:=decide ((cA n S l).2=0)&&decide ((cA n S l).1.w=d)&&uF (cA n S l).1.st w
def uY (C:bM) (S:Nat->List Th) (l at' d:Int) (w:Bool):Int:=
 if yO C l=false then 10 else if at'<0 then 10 else if at'>=2 then 10 else if lJ C.bK.toNat S l d w=false then 16 else 0
def rN (C:bM) (s:lE) (l at' d:Int):lE:=if uY C s.S l at' d false=0 then {s with S:=Gu C.bK.toNat C.ways.toNat s.S l} else s
def aGm (d:Ln) (at' v:Int):Ln:=if at'=0 then(v,d.2) else(d.1,v)
def Aj (n:Nat) (S:Nat->List Th) (l at' v:Int):rI:=⟨4,(cA n S l).1.w,aGm (cA n S l).1.d at' v⟩
def mS (C:bM) (s:lE) (l at' d v:Int):lE:=if uY C s.S l at' d true=0 then {s with S:=(mV C.bK.toNat C.ways.toNat s.S l (Aj C.bK.toNat s.S l at' v)).1} else s
def Bd (s:lE):Prop:=∀i,(s.S i).length<=4
theorem nE (hC:C.Ok):0<C.bK.toNat/\C.bK.toNat<=8/\0<C.ways.toNat/\C.ways.toNat<=4:=by unfold bM.Ok at hC;omega
theorem Yr {S:Nat->List Th} {l at' g:Int} {w:Bool} (h:uY C S l at' g w=0):(0<=l/\l<C.lines)/\(at'=0\/at'=1)/\(cA C.bK.toNat S l).2=0/\uF (cA C.bK.toNat S l).1.st w=true:=by
 unfold uY at h;split at h;omega;split at h;omega;split at h;omega;split at h;omega;rename_i d j m e;have d:yO C l=true:=by simpa using d
 have e:lJ C.bK.toNat S l g w=true:=by simpa using e
 unfold yO at d;unfold lJ at e;grind
def kO (core:Int) (s:lE) (l w:Int) (wr:Bool) (ns:List aK):lE×List aK×Int:=
 ({s with al:=l,aw:=wr,Xe:=true},ns++[⟨if wr then 2 else 1,core,l,w,0,0,0,false,0⟩],0)
def zC (C:bM) (core:Int) (s:lE) (l w:Int) (wr:Bool):lE×List aK×Int:=
 match Ik C.bK.toNat C.ways.toNat s.S l with
 |none=>kO core s l w wr []
 |some v=>
  if s.I0 then(s,[],11) else
  if(cA C.bK.toNat s.S v.1).2≠0 then({s with S:=kL C.bK.toNat s.S v.1},[],(cA C.bK.toNat s.S v.1).2) else
  kO core {s with S:=kL C.bK.toNat s.S v.1,gl:=v.1,gc:=(cA C.bK.toNat s.S v.1).1,I0:=true} l w wr
   [⟨3,core,v.1,(cA C.bK.toNat s.S v.1).1.w,0,(cA C.bK.toNat s.S v.1).1.d.1,(cA C.bK.toNat s.S v.1).1.d.2,lZ (cA C.bK.toNat s.S v.1).1.st,0⟩]
def want (C:bM) (core:Int) (s:lE) (l w:Int) (wr:Bool):lE×List aK×Int:=
 if yO C l=false then(s,[],10) else if s.Xe then(s,[],17) else if s.I0=true/\s.gl=l then(s,[],16) else
 if(cA C.bK.toNat s.S l).2=0/\uF (cA C.bK.toNat s.S l).1.st wr=true then(s,[],13) else zC C core s l w wr
abbrev Tk:=lE×List aK×Int
def kT (C:bM) (s:lE) (n:aK):rI:=⟨n.state,n.world,if(cA C.bK.toNat s.S n.line).2=0 then(cA C.bK.toNat s.S n.line).1.d else(n.d0,n.d1)⟩
def vD (C:bM) (core:Int) (s:lE) (n:aK):Tk:=
 if s.Xe=false then(s,[],16) else if s.al≠n.line then(s,[],16) else
 if(mV C.bK.toNat C.ways.toNat s.S n.line (kT C s n)).2≠0 then({s with S:=(mV C.bK.toNat C.ways.toNat s.S n.line (kT C s n)).1},[],(mV C.bK.toNat C.ways.toNat s.S n.line (kT C s n)).2) else
 ({s with S:=(mV C.bK.toNat C.ways.toNat s.S n.line (kT C s n)).1,al:=0,aw:=false,Xe:=false},[⟨4,core,n.line,0,0,0,0,false,0⟩],0)
def Ef (s:lE) (n:aK):Tk:=if s.Xe=false then(s,[],16) else if s.al≠n.line then(s,[],16) else({s with al:=0,aw:=false,Xe:=false},[],0)
def rS (s:lE) (n:aK):Tk:=if s.I0=false then(s,[],12) else if s.gl≠n.line then(s,[],12) else({s with gl:=0,gc:=rI.zero,I0:=false},[],0)
def kW (core:Int) (n:aK) (x:rI):aK:=if Fh x.st then⟨5,core,n.line,0,mJ x.st n.state,x.d.1,x.d.2,lZ x.st,0⟩ else⟨5,core,n.line,0,mJ x.st n.state,0,0,false,0⟩
def nS (C:bM) (core:Int) (s:lE) (n:aK):Tk:=
 if n.state≠1/\n.state≠0 then(s,[],10) else
 if(cA C.bK.toNat s.S n.line).2=0 then
  ({s with S:=if mJ (cA C.bK.toNat s.S n.line).1.st n.state=0 then kL C.bK.toNat s.S n.line else(mV C.bK.toNat C.ways.toNat s.S n.line {(cA C.bK.toNat s.S n.line).1 with st:=mJ (cA C.bK.toNat s.S n.line).1.st n.state}).1},[kW core n (cA C.bK.toNat s.S n.line).1],0)
 else if s.I0=false then(s,[⟨5,core,n.line,0,0,0,0,false,0⟩],0) else if s.gl≠n.line then(s,[⟨5,core,n.line,0,0,0,0,false,0⟩],0) else
  ({s with gc:={s.gc with st:=mJ s.gc.st n.state}},[kW core n s.gc],0)
def gY (C:bM) (core:Int) (s:lE) (n:aK):Tk:=
 if n.kind=8 then(if yO C n.line=false then(s,[],10) else vD C core s n)
 else if n.kind=9 then(if yO C n.line=false then(s,[],10) else Ef s n)
 else if n.kind=10 then(if yO C n.line=false then(s,[],10) else rS s n)
 else if n.kind=11 then(if yO C n.line=false then(s,[],10) else nS C core s n)
 else(s,[],15)
def M7 (core:Int) (n:aK):aK:=⟨5,core,n.line,0,0,0,0,false,0⟩
structure Sts (n:Nat) (s:lE):Prop where
 aKv:∀l,(cA n s.S l).2=0->0<=(cA n s.S l).1.st/\(cA n s.S l).1.st<5
 back:s.I0=true->0<=s.gc.st/\s.gc.st<5
theorem rY {no:Int} {l:List Th}:(rem no l).Sublist l:=by
 induction l with
 |nil=>exact List.Sublist.refl _
 |cons t l d=>
  simp only[rem];grind
theorem Qs {no:Int} {l:List Th} (h:(l.map (·.1)).Nodup):no∉(rem no l).map (·.1):=by
 induction l with
 |nil=>simp[rem]
 |cons t l d=>
  simp only[List.map_cons,List.nodup_cons] at h;simp only[rem];grind
theorem get_mem {no:Int} {l:List Th} {x:rI} (h:get no l=some x):(no,x)∈l:=by
 unfold Go.Ct.get at h;cases hf:l.find? (fun t=>decide (t.1=no)) with
 |none=>rw[hf] at h;cases h
 |some t=>
  grind
theorem aCw {no:Int} {l:List Th} (h:no∉l.map (·.1)):get no l=none:=by
 unfold Go.Ct.get;grind
theorem s5 {no:Int} {l:List Th} {x:rI} (h:no∉l.map (·.1)):get no (l++[(no,x)])=some x:=by
 have d:=aCw h;unfold Go.Ct.get at d ⊢;grind
structure oT (ways:Nat) (l:List Th):Prop where
 len:l.length<=ways
 st:∀t∈l,1<=t.2.st/\t.2.st<=4
 nd:(l.map (·.1)).Nodup
theorem oT.rem {ways:Nat} {l:List Th} {no:Int} (h:oT ways l):oT ways (Go.Ct.rem no l):=
 ⟨Nat.le_trans rY.length_le h.len,fun t d=>h.st t (rY.mem d),(rY.map _).nodup h.nd⟩
theorem oT.app {ways:Nat} {l:List Th} {no:Int} {x:rI} (h:oT ways l) (g:l.length<ways) (m:1<=x.st/\x.st<=4) (j:no∉l.map (·.1)):oT ways (l++[(no,x)]):=
 ⟨by simp;omega,fun t e=>by
  rcases List.mem_append.1 e with d|d;exact h.st t d;grind,by
  rw[List.map_append,List.nodup_append];refine⟨h.nd,by simp,?_⟩;grind⟩
def Pl (n:Nat) (S:Nat->List Th):Prop:=∀i t,t∈S i->0<=t.1/\setOf n t.1=i
theorem Df {n:Nat} {S:Nat->List Th} {no:Int} (h:Pl n S):Pl n (kL n S no):=by
 intro i t d;unfold kL at d;split at d;exact h i t d;unfold bY at d;split at d;rename_i e;subst e;exact h _ t (rY.mem d);exact h i t d
theorem I9 {n ways:Nat} {S:Nat->List Th} {no:Int} {x:rI} (j:0<=no) (h:Pl n S):Pl n (mV n ways S no x).1:=by
 intro i t d;unfold mV at d;split at d;unfold bY at d;dsimp only at d;split at d;rename_i e;subst e;exact h _ t (rY.mem d);exact h i t d;unfold bY at d;dsimp only at d;split at d;rename_i e;subst e;rcases List.mem_append.1 d with g|g;exact h _ t (rY.mem g);grind;exact h i t d
structure Good (n ways:Nat) (s:lE):Prop where
 bK:∀i,oT ways (s.S i)
 back:s.I0=true->0<=s.gc.st/\s.gc.st<=4
 pl:Pl n s.S
theorem sE {no:Int} (h:∀i,oT ways (S i)):∀i,oT ways (kL n S no i):=by
 intro i;unfold kL;split;exact h i;unfold bY;split;exact(h _).rem;exact h i
theorem zY {no:Int} {x:rI} (d:1<=x.st/\x.st<=4) (h:∀i,oT ways (S i)):∀i,oT ways ((mV n ways S no x).1 i):=by
 intro i;unfold mV;split;unfold bY;dsimp only;split;exact(h _).rem;exact h i;rename_i e;unfold bY;dsimp only;split;exact((h (setOf n no)).rem).app (by omega) d (Qs (h _).nd);exact h i
theorem Il {l:Int} (h:∀i,oT ways (S i)) (d:(cA n S l).2=0):1<=(cA n S l).1.st/\(cA n S l).1.st<=4:=by
 unfold cA at d ⊢;split at d;cases d;rename_i e;rw[aN9 e];cases hg:get l (S (setOf n l)) with
 |none=>grind
 |some x=>exact(h _).st _ (get_mem hg)
theorem qu {no:Int} (h:∀i,oT ways (S i)):∀i,oT ways (Gu n ways S no i):=by
 intro i;unfold Gu;split;rename_i d;exact zY (Il h d) (sE h) i;exact sE h i
theorem tj {no:Int} (d:(cA n S no).2=0):0<=no:=by
 unfold cA at d;grind
theorem aFa {no:Int} (h:Pl n S):Pl n (Gu n ways S no):=by
 unfold Gu;split;rename_i d;exact I9 (tj d) (Df h);exact Df h
theorem Good.bd (h:Good n ways s) (d:ways<=4):Bd s:=fun i=>Nat.le_trans (h.bK i).len d
theorem Good.sts (h:Good n ways s):Sts n s:=⟨fun l e=>by have:=Il (n:=n) h.bK e;omega,fun d=>by have:=h.back d;omega⟩
theorem zj:Good n ways lE.new:=⟨fun _=>⟨Nat.zero_le _,(fun _ h=>by cases h),List.nodup_nil⟩,(fun h=>by cases h),fun _ _ h=>by cases h⟩
abbrev mL (C:bM) (s:lE):Prop:=Good C.bK.toNat C.ways.toNat s
theorem pk {l w:Int} {wr:Bool} (h:mL C s):mL C (want C core s l w wr).1:=by
 unfold want;split;exact h;split;exact h;split;exact h;split;exact h;unfold zC;split;exact⟨h.bK,h.back,h.pl⟩;split;exact h;split;exact⟨sE h.bK,h.back,Df h.pl⟩;rename_i v _ _ d;have d:(cA C.bK.toNat s.S v.1).2=0:=by simpa using d
 exact⟨sE h.bK,fun _=>(by have:=Il (n:=C.bK.toNat) h.bK d;exact⟨by show 0<=(cA C.bK.toNat s.S v.1).1.st;omega,this.2⟩),Df h.pl⟩
theorem T7 {x to:Int} (d:0<=x/\x<=4):0<=mJ x to/\mJ x to<=4:=by
 unfold mJ R5;grind
theorem j7 {nt:aK} (m:nt.kind=8->1<=nt.state/\nt.state<=4) (h:mL C s):mL C (gY C core s nt).1:=by
 unfold gY;split;rename_i g;split;exact h;rename_i r;have d:0<=nt.line:=(of_decide_eq_true (by simpa using r:yO C nt.line=true)).1;unfold vD;split;exact h;split;exact h;split;exact⟨zY (m g) h.bK,h.back,I9 d h.pl⟩;exact⟨zY (m g) h.bK,h.back,I9 d h.pl⟩
 .split;split;exact h;unfold Ef;split;exact h;split;exact h;exact⟨h.bK,h.back,h.pl⟩
  .split;split;exact h;unfold rS;split;exact h;split;exact h;exact⟨h.bK,(fun e=>by cases e),h.pl⟩
   .split
    .split;exact h
     .unfold nS;split;exact h
      .split
       .rename_i j;have d:=tj j;have u:=Il (n:=C.bK.toNat) h.bK j;refine⟨?_,h.back,?_⟩;rotate_left;dsimp only;split;exact Df h.pl;exact I9 d h.pl;dsimp only;split;exact sE h.bK;rename_i t;exact zY (by have:=T7 (x:=(cA C.bK.toNat s.S nt.line).1.st) (to:=nt.state) (by omega);dsimp only;omega) h.bK
       split;exact h;split;exact h;rename_i o _;exact⟨h.bK,(fun _=>T7 (h.back (by simpa using o))),h.pl⟩
    exact h
theorem Gd {l a d:Int} (h:mL C s):mL C (rN C s l a d):=by
 unfold rN;split;exact⟨qu h.bK,h.back,aFa h.pl⟩;exact h
theorem Lb {l a e v:Int} (h:mL C s):mL C (mS C s l a e v):=by
 unfold mS;split;rename_i d;exact⟨zY (by simp[Aj]) h.bK,h.back,I9 (Yr d).1.1 h.pl⟩;exact h
theorem uo {l w:Int} {wr:Bool}:(want C core s l w wr).2.1.length<=2:=by
 unfold want;split;simp;split;simp;split;simp;split;simp;unfold zC;split;simp[kO];split;simp;split;simp;simp[kO]
theorem zl {nt:aK}:(gY C core s nt).2.1.length<=1:=by
 unfold gY vD Ef rS nS;grind
end
end Go.Ct
namespace Go.Nt
open Go Go.Ab Go.Hm
section
def Y8:List (List UInt8×Int×List Int):=[
 ([],0,[0,0,0,0,0,0,0]),
  ([103,101,116,115],0,[1,2,3,0,0,0,0]),
  ([103,101,116,109],0,[1,2,3,0,0,0,0]),
  ([112,117,116],0,[1,2,4,8,9,10,0]),
  ([100,111,110,101],1,[1,2,0,0,0,0,0]),
  ([114,101,112,108,121],1,[1,2,5,8,9,10,11]),
  ([119,97,108,107],0,[1,12,0,0,0,0,0]),
  ([100,114,111,112,112,101,100],1,[1,13,0,0,0,0,0]),
  ([103,114,97,110,116],2,[1,2,4,6,8,9,0]),
  ([110,97,99,107],2,[1,2,11,0,0,0,0]),
  ([112,117,116,97,99,107],2,[1,2,0,0,0,0,0]),
  ([112,114,111,98,101],3,[1,2,7,0,0,0,0]),
  ([119,97,108,107,101,100],2,[1,8,9,12,0,0,0]),
  ([100,114,111,112],3,[1,13,0,0,0,0,0])]
def aB3 (r:List UInt8×Int×List Int):List Value:= .string ⟨r.1.toArray⟩::I r.2.1::r.2.2.map I
def xR:List Value:=Y8.flatMap aB3
def ma (k:Nat):List Int:=(Y8.getD k ([],0,[])).2.2
def Ol (k:Nat):Int:=(Y8.getD k ([],0,[])).2.1
def ws (arr:List Int):Nat->Nat->List Int
 |0,_=>[]
 |f+1,i=>if arr.getD i 0=0 then [] else arr.getD i 0::ws arr f (i+1)
def Dz (k:Nat):List Int:=ws (ma k) 7 0
theorem k14 {k:Nat} (h:k<14):k=0\/k=1\/k=2\/k=3\/k=4\/k=5\/k=6\/k=7\/k=8\/k=9\/k=10\/k=11\/k=12\/k=13:=by omega
theorem Xj {k:Nat} (h:k<14):xR[k*9+1]?=some (I (Ol k)):=by
 rcases k14 h with rfl|rfl|rfl|rfl|rfl|rfl|rfl|rfl|rfl|rfl|rfl|rfl|rfl|rfl<;>rfl
theorem ke {k:Nat} (h:k<14):(xR.drop (k*9+2)).take 7=(ma k).map I:=by
 rcases k14 h with rfl|rfl|rfl|rfl|rfl|rfl|rfl|rfl|rfl|rfl|rfl|rfl|rfl|rfl<;>rfl
theorem dk {k:Nat} (h:k<14):(ma k).length=7:=by
 rcases k14 h with rfl|rfl|rfl|rfl|rfl|rfl|rfl|rfl|rfl|rfl|rfl|rfl|rfl|rfl<;>rfl
theorem pg:xR.length=126:=by rfl
theorem aDg {k:Nat} (h:k<14):∀f∈Dz k,1<=f/\f<=13:=by
 rcases k14 h with rfl|rfl|rfl|rfl|rfl|rfl|rfl|rfl|rfl|rfl|rfl|rfl|rfl|rfl<;>decide
theorem f13 {f:Int} (h:1<=f/\f<=13):f=1\/f=2\/f=3\/f=4\/f=5\/f=6\/f=7\/f=8\/f=9\/f=10\/f=11\/f=12\/f=13:=by omega
def Sw (k:Int):Prop:=1<=k/\k<14
instance (k:Int):Decidable (Sw k):=by unfold Sw;infer_instance
def kz (n:aK) (f:Int):Int:=
 if f=1 then n.core else if f=2 then n.line else if f=3\/f=4 then n.world else if f=5\/f=6\/f=7 then n.state else if f=8 then n.d0 else if f=9 then n.d1
 else if f=10 then(if n.Ds=true then 1 else 0) else n.no
def aGh (n:aK) (f v:Int):aK:=
 if f=1 then {n with core:=v} else if f=2 then {n with line:=v} else if f=3\/f=4 then {n with world:=v} else if f=5\/f=6\/f=7 then {n with state:=v} else if f=8 then {n with d0:=v} else if f=9 then {n with d1:=v}
 else if f=10 then {n with Ds:=decide (v≠0)} else {n with no:=v}
def sc (C:bM) (f v:Int):Prop:=
 if f=1 then 0<=v/\v<C.aG else if f=2 then 0<=v/\v<C.lines else if f=3 then 0<=v/\v<=3 else if f=4 then 0<=v/\v<=4 else if f=5 then 0<=v/\v<=4
 else if f=6 then v=1\/v=2\/v=4 else if f=7 then v=0\/v=1 else if f=10\/f=11 then v=0\/v=1 else if f=12 then 0<=v/\v<20 else if f=13 then 0<=v/\v<C.bU else True
instance (C:bM) (f v:Int):Decidable (sc C f v):=by unfold sc;infer_instance
def qN (C:bM) (n:aK):List Int->aK->Bool×aK
 |[],a=>(true,a)
 |f::d,a=>if sc C f (kz n f) then qN C n d (aGh a f (kz n f)) else(false,a)
def D8 (k:Int):aK:={aK.zero with kind:=k}
def An (C:bM) (n:aK):Int:=
 if Sw n.kind then(if C.Ok then(if(qN C n (Dz n.kind.toNat) (D8 n.kind)).1=true/\(qN C n (Dz n.kind.toNat) (D8 n.kind)).2=n then 0 else 10) else 10) else 15
end
end Go.Nt
namespace Go.Mc
open Go Go.Ab Go.Hm Go.At Go.Is Go.Ct Go.Nt
section
structure kR where
 owner:Int
 locked:Bool
 deriving DecidableEq
def kR.enc (x:kR):List Value:=[I x.owner,.bool x.locked]
def kG:kR:=⟨0,false⟩
def pQ (n g:Int):Int:=(n+3)/4+g
def jh (x:kR):Int:=if x.locked then x.owner+8 else x.owner
def Xm (es:List kR) (j:Nat):Bool:=((es.drop (4*j)).take 4).all fun x=>decide (x=⟨(es.getD (4*j) kG).owner,false⟩)
def Wf (es:List kR) (j:Nat):Int:=if Xm es j then 4*(es.getD (4*j) kG).owner else 4*pQ es.length (4*j:Nat)+1
def jB (es:List kR):List Int:=(List.range ((es.length+3)/4)).map (Wf es)++es.map jh
def sQ (es:List kR) (at':Int):Int×Int:=if 0<=at'/\at'<(jB es).length then((jB es).getD at'.toNat 0,0) else(0,10)
def K8 (o:Int):Bool:=decide (0<=o/\o<=4)
def J3 (n g at' word:Int):Int×kR×Bool×Int:=
 if ¬((1<=n/\n<=16)/\(0<=g/\g<n)) then(0,kG,false,10)
 else if at'=g/4 then
  if word=4*pQ n (g/4*4)+1 then(pQ n g,kG,false,0)
  else if word % 4=0/\K8 (word/4)=true then(0,⟨word/4,false⟩,true,0)
  else(0,kG,false,14)
 else if at'=pQ n g then
  if K8 word=true then(0,⟨word,false⟩,true,0)
  else if 8<=word/\K8 (word - 8)=true then(0,⟨word - 8,true⟩,true,0)
  else(0,kG,false,14)
 else(0,kG,false,10)
structure mP where
 rQ:Bool
 cE:Int
 at':Int
 uL:Bool
 known:List (Int×Int)
def Hx:mP:=⟨false,0,0,false,[]⟩
def cY (x:Int×Int):List Value:=[I x.1,I x.2]
def oC (l:List (Int×Int)) (g:Int):Option Int:=(l.find? fun x=>decide (x.1=g)).map (·.2)
def mP.ask (c:mP) (C:bM) (world g:Int):Int×Int:=
 if(0<=g/\g<C.bU)/\(0<=world/\world<=3) then
  match oC c.known g with
  |none=>(3,0)
  |some o=>if K1 world o then(1,0) else(2,0)
 else(0,10)
def mP.start (c:mP) (g:Int):mP:={c with rQ:=true,cE:=g,at':=g/4,uL:=false}
def mP.begin (c:mP) (C:bM) (g:Int):mP×Int×Int:=
 if ¬(0<=g/\g<C.bU) then(c,0,10)
 else if(oC c.known g).isSome then(c,0,13)
 else if c.rQ then(c,0,16)
 else(c.start g,g/4,0)
def mP.Jf (c:mP) (C:bM) (f:Int×Int):mP:={c with known:=(if(c.known.length:Int)>=C.entries then c.known.drop 1 else c.known)++[f]}
def mP.goto (c:mP) (a:Int):mP:={c with at':=a}
def mP.fresh (c:mP):mP:={c with uL:=false,at':=c.cE/4}
def mP.done (c:mP):mP:={c with rQ:=false,cE:=0,at':=0,uL:=false}
def mP.walked (c:mP) (C:bM) (at' word:Int):mP×Int×Bool×Int:=
 if c.rQ=false then(c,0,false,16)
 else if at'≠c.at' then(c,0,false,1)
 else if c.uL then(c.fresh,c.cE/4,false,0)
 else
  let r:=J3 C.bU c.cE at' word
  if r.2.2.2≠0 then(c,0,false,r.2.2.2)
  else if r.2.2.1=true/\r.2.1.locked=true then(c.goto (c.cE/4),c.cE/4,false,0)
  else if r.2.2.1=false then(c.goto r.1,r.1,false,0)
  else((c.Jf C (c.cE,r.2.1.owner)).done,0,true,0)
def mP.drop (c:mP) (C:bM) (g:Int):mP×Int:=
 if g< -1\/g>=C.bU then(c,10)
 else({c with known:=c.known.filter (fun x=> !decide (g= -1\/x.1=g)),uL:=c.uL||(c.rQ&&decide (g= -1\/c.cE=g))},0)
structure iU where
 core:Int
 world:Int
 call:Int
 cE:Int
 to:Int
 then':Int
 Ep:Bool
 phase:Int
 waits:Nat->Bool
def iU.enc (r:iU):List Value:=[I r.core,I r.world,I r.call,I r.cE,I r.to,I r.then',.bool r.Ep,I r.phase,.bool (r.waits 0),.bool (r.waits 1),.bool (r.waits 2),.bool (r.waits 3)]
structure Mon where
 fY:List kR
 runs:Nat->Option iU
def Mon.oh (m:Mon) (g:Nat) (x:kR):Mon:={m with fY:=m.fY.set g x}
def Mon.dX (m:Mon) (g:Nat) (x:Option iU):Mon:={m with runs:=bY m.runs g x}
def Mon.has (m:Mon) (g:Int):Prop:=0<=g/\g<m.fY.length
instance (m:Mon) (g:Int):Decidable (m.has g):=by unfold Mon.has;infer_instance
def Mon.Bp (m:Mon) (g:Int):kR:=m.fY.getD g.toNat kG
def Mon.run (m:Mon) (g:Int):Option iU:=if 0<=g then m.runs g.toNat else none
def Mon.phase (m:Mon) (g:Int):Int:=match m.run g with
 |some r=>r.phase
 |none=>0
def Mon.running (m:Mon):List Nat:=(List.range 16).filter fun g=>(m.runs g).isSome
def Mon.kS (m:Mon) (core:Int) (g:Nat):Bool:=match m.runs g with
 |some r=>decide (r.core=core)
 |none=>false
def Mon.calls (m:Mon) (core:Int):Bool:=m.running.any (m.kS core)
structure Ask where
 core:Int
 world:Int
 call:Int
 cE:Int
 to:Int
def Ask.enc (a:Ask):List Value:=[I a.core,I a.world,I a.call,I a.cE,I a.to]
def Ask.run (a:Ask) (aG:Int) (j:Int×Bool×Int):iU:=⟨a.core,a.world,a.call,a.cE,a.to,j.1,j.2.1,1,fun i=>decide ((i:Int)<aG)⟩
def Mon.call (m:Mon) (aG:Int) (a:Ask):Mon×Bool×Int:=
 if ¬(0<=a.core/\a.core<aG) then(m,false,1)
 else if ¬m.has a.cE then(m,false,10)
 else if m.phase a.cE≠0 then(m,false,17)
 else if m.calls a.core then(m,false,13)
 else
  let j:=mA a.call a.world (m.Bp a.cE).owner a.to
  if j.2.2≠0 then(m,false,j.2.2)
  else((m.oh a.cE.toNat ⟨(m.Bp a.cE).owner,true⟩).dX a.cE.toNat (some (a.run aG j)),true,0)
def iU.none (r:iU):Bool:= !(r.waits 0||r.waits 1||r.waits 2||r.waits 3)
def iU.heard (r:iU) (core:Int):iU:={r with waits:=wY r.waits core false}
def iU.mH (r:iU):iU:={r with phase:=if r.none then 2 else r.phase}
def Mon.dropped (m:Mon) (aG g core:Int):Mon×Bool×Int:=
 if ¬m.has g then(m,false,10)
 else match m.run g with
  |none=>(m,false,16)
  |some r=>
   if r.phase≠1 then(m,false,16)
   else if ¬(0<=core/\core<aG)\/r.waits core.toNat=false then(m,false,12)
   else(m.dX g.toNat (some (r.heard core).mH),(r.heard core).none,0)
def Mon.over (m:Mon) (g:Int):Mon×Option iU×Int:=
 if ¬m.has g then(m,none,10)
 else match m.run g with
  |none=>(m,none,16)
  |some r=>
   if r.phase≠2 then(m,none,16)
   else((m.oh r.cE.toNat ⟨r.then',false⟩).dX g.toNat none,some r,0)
def aX.next? (s:aX):Option Ins:=if s.over then none else some (vM s.prog s.at')
def aX.ev (s:aX) (i:Nat) (x:Ins) (word value code:Int):Ev:=⟨i,s.at',x.op,s.world,word,value,code⟩
def aX.mT (s:aX) (i:Nat):Option (aX×Ev):=
 match aX.next? s with
 |none=>none
 |some x=>
  if x.op=1 then some ((s.dX x.a x.b).rA (s.at'+1),aX.ev s i x 0 x.b 0)
  else if x.op=2 then some ((s.dX x.a (wr (s.eB x.b.toNat+s.eB x.c.toNat))).rA (s.at'+1),aX.ev s i x 0 (wr (s.eB x.b.toNat+s.eB x.c.toNat)) 0)
  else if x.op=6 then some (s.rA (s.at'+1),aX.ev s i x 0 0 0)
  else if x.op=7 then(if s.world=0 then some ((s.zc x.a).rA (s.at'+1),aX.ev s i x 0 x.a 0) else some (s.rA (s.at'+1),aX.ev s i x 0 x.a 18))
  else if x.op=9 then some (s.rA x.a,aX.ev s i x 0 x.a 0)
  else if x.op=10 then some (s.rA (if s.eB x.a.toNat=0 then x.b else s.at'+1),aX.ev s i x 0 (s.eB x.a.toNat) 0)
  else none
def J5 (op:Int):Bool:=decide (op=3\/op=4\/op=5)
structure Acc where
 word:Int
 write:Bool
 read:Bool
 value:Int
def aX.Ej (s:aX):Option Acc:=
 match aX.next? s with
 |none=>none
 |some x=>if J5 x.op then some ⟨s.eB x.b.toNat,decide (x.op≠3),decide (x.op≠4),if x.op=3 then 0 else s.eB x.a.toNat⟩ else none
def aX.Xk (s:aX) (i:Nat):Option Ask:=
 match aX.next? s with
 |none=>none
 |some x=>if x.op=8 then some ⟨i,s.world,x.a,s.eB x.b.toNat,s.eB x.c.toNat⟩ else none
def aX.cC (s:aX) (i:Nat) (value code:Int):aX×Ev×Int:=
 match aX.next? s with
 |none=>(s,Fw,16)
 |some x=>
  if x.op=8 then((s.dX x.b code).rA (s.at'+1),aX.ev s i x (s.eB x.b.toNat) (s.eB x.c.toNat) code,0)
  else if J5 x.op then
   if code≠0/\code≠19 then(s,Fw,1)
   else if code=19 then(s.rA (s.at'+1),aX.ev s i x (s.eB x.b.toNat) 0 19,0)
   else if x.op=4 then(s.rA (s.at'+1),aX.ev s i x (s.eB x.b.toNat) (s.eB x.a.toNat) 0,0)
   else((s.dX x.a value).rA (s.at'+1),aX.ev s i x (s.eB x.b.toNat) value 0,0)
  else(s,Fw,16)
abbrev fM:=Nat->Nat->List aK
def fV (n:aK):Nat:=(Ol n.kind.toNat).toNat
def fM.set (F:fM) (c w:Nat) (l:List aK):fM:=fun d e=>if d=c/\e=w then l else F d e
def fM.put (F:fM) (n:aK):fM:=F.set n.core.toNat (fV n) (F n.core.toNat (fV n)++[n])
def fM.Du (d:Int):fM->List aK->Option fM
 |F,[]=>some F
 |F,n::l=>if((F n.core.toNat (fV n)).length:Int)<d then fM.Du d (F.put n) l else none
def cL (C:bM):List aK->Int
 |[]=>0
 |n::l=>if An C n≠0 then An C n else cL C l
def fM.send (C:bM) (F:fM) (l:List aK):fM×Int:=
 if cL C l≠0 then(F,cL C l) else match fM.Du C.depth F l with
  |some d=>(d,0)
  |none=>(F,11)
def fM.take (C:bM) (F:fM) (core d e:Int):fM×aK×Int:=
 if ¬((0<=core/\core<C.aG)/\(0<=d/\d<4)) then(F,aK.zero,10)
 else
  let l:=F core.toNat d.toNat
  if l=[] then(F,aK.zero,12)
  else
   let i:=(e % (l.length:Int)).toNat
   (F.set core.toNat d.toNat (l.eraseIdx i),l.getD i aK.zero,0)
structure cN where
 bJ:Nat->aX
 cX:Nat->lE
 cL:Nat->mP
 home:kP
 dS:Mon
 jT:fM
 log:List Ev
abbrev cN.Ho (M:cN) (i:Nat) (s:aX):cN:={M with bJ:=bY M.bJ i s}
abbrev cN.qF (M:cN) (i:Nat) (s:lE):cN:={M with cX:=bY M.cX i s}
abbrev cN.Cj (M:cN) (i:Nat) (s:mP):cN:={M with cL:=bY M.cL i s}
abbrev cN.rX (M:cN) (h:kP):cN:={M with home:=h}
abbrev cN.sC (M:cN) (m:Mon):cN:={M with dS:=m}
abbrev cN.dH (M:cN) (l:fM):cN:={M with jT:=l}
abbrev cN.Hu (M:cN) (v:Ev):cN:={M with log:=M.log++[v]}
def eX (kind:Int) (core:Int) (no:Int):aK:={aK.zero with kind:=kind,core:=core,no:=no}
def E0 (core word no:Int):aK:={eX 12 core no with d0:=word}
variable (C:bM)
def cN.waits (M:cN) (i:Int):Bool:=M.dS.calls i
def cN.cC (M:cN) (i:Nat) (value code:Int):cN×Int:=
 let r:=aX.cC (M.bJ i) i value code
 if r.2.2≠0 then(M,r.2.2) else((M.Ho i r.1).Hu r.2.1,0)
def Hj (aG g:Int):List aK:=(List.range aG.toNat).map fun i:Nat=>eX 13 i g
def cN.call (M:cN) (i:Nat) (a:Ask):cN×Int:=
 let r:=M.dS.call C.aG a
 if r.2.2≠0 then M.cC i 0 r.2.2
 else
  let s:=M.jT.send C (Hj C.aG a.cE)
  if s.2≠0 then(M,s.2) else((M.dH s.1).sC r.1,0)
def cN.walk (M:cN) (i:Nat) (g:Int):cN×Int:=
 let r:=(M.cL i).begin C g
 if r.2.2≠0 then(M,r.2.2)
 else
  let s:=M.jT.send C [eX 6 i r.2.1]
  if s.2≠0 then(M,s.2) else((M.dH s.1).Cj i r.1,0)
def cN.want (M:cN) (i:Nat) (line:Int) (write:Bool):cN×Int:=
 let r:=Ct.want C i (M.cX i) line (M.bJ i).world write
 if r.2.2≠0 then(M,r.2.2)
 else
  let s:=M.jT.send C r.2.1
  if s.2≠0 then(M,s.2) else((M.dH s.1).qF i r.1,0)
def cN.known (M:cN) (i:Nat) (g:Int):Int:=(oC (M.cL i).known g).getD 0
def aJ7 (d:Ln) (a:Int):Int:=if a=0 then d.1 else d.2
def Dc (c:lE) (l a:Int):Int:=aJ7 (cA C.bK.toNat c.S l).1.d a
def cN.Wn (M:cN) (i:Nat) (line at' owner:Int) (a:Acc):cN×Int:=
 let d:=if a.read then rN C (M.cX i) line at' owner else M.cX i
 let c2:=if a.write then mS C d line at' owner a.value else d
 (M.qF i c2).cC i (if a.read then Dc C (M.cX i) line at' else 0) 0
def cN.access (M:cN) (i:Nat) (a:Acc):cN×Int:=
 if ¬(0<=a.word/\a.word<C.lines*2) then M.cC i 0 19
 else
  let line:=a.word/2
  let g:=line/2
  let r:=(M.cL i).ask C (M.bJ i).world g
  if r.2≠0 then(M,r.2)
  else if r.1=3 then M.walk C i g
  else if r.1=2 then M.cC i 0 19
  else if lJ C.bK.toNat (M.cX i).S line (M.known i g) a.write=false then M.want C i line a.write
  else M.Wn C i line (a.word % 2) (M.known i g) a
def cN.step (M:cN) (A:Int):cN×Int:=
 if ¬(0<=A/\A<C.aG) then(M,10)
 else
  let i:=A.toNat
  if(M.bJ i).over then(M,20)
  else if M.waits A then(M,16)
  else match aX.mT (M.bJ i) i with
   |some r=>((M.Ho i r.1).Hu r.2,0)
   |none=>match aX.Xk (M.bJ i) i with
    |some a=>M.call C i a
    |none=>match aX.Ej (M.bJ i) with
     |some a=>M.access C i a
     |none=>(M,16)
def Mn (H:kP) (g:Int):kP:=(iV C (iV C H (g*2)).1 (g*2+1)).1
def cN.fT (M:cN) (n:aK):cN×List aK×Int:=
 if n.kind=1\/n.kind=2\/n.kind=3\/n.kind=4\/n.kind=5 then
  let r:=fF C M.home n
  (M.rX r.1,r.2.1,r.2.2)
 else if n.kind=8\/n.kind=9\/n.kind=10\/n.kind=11 then
  let r:=gY C n.core (M.cX n.core.toNat) n
  (M.qF n.core.toNat r.1,r.2.1,r.2.2)
 else if n.kind=6 then
  let r:=sQ M.dS.fY n.no
  (M,[E0 n.core r.1 n.no],r.2)
 else if n.kind=12 then
  let r:=(M.cL n.core.toNat).walked C n.no n.d0
  (M.Cj n.core.toNat r.1,if r.2.2.1 then [] else [eX 6 n.core r.2.1],r.2.2.2)
 else if n.kind=13 then
  let r:=(M.cL n.core.toNat).drop C n.no
  (M.Cj n.core.toNat r.1,[eX 7 n.core n.no],r.2)
 else if n.kind=7 then
  let r:=M.dS.dropped C.aG n.no n.core
  (if r.2.1 then(M.sC r.1).rX (Mn C M.home n.no) else M.sC r.1,[],r.2.2)
 else(M,[],15)
def cN.uN (M:cN) (A B D:Int):cN×Int:=
 let t:=M.jT.take C A B D
 if t.2.2≠0 then(M,t.2.2)
 else
  let r:=M.fT C t.2.1
  if r.2.2≠0 then(M,r.2.2)
  else
   let s:=t.1.send C r.2.1
   if s.2≠0 then(M,s.2) else(r.1.dH s.1,0)
def cN.W7 (M:cN) (line:Int) (world:Int):Int×Bool:=
 if C.has line then((M.dS.Bp (line/2)).owner,!(M.dS.Bp (line/2)).locked&&K1 world (M.dS.Bp (line/2)).owner) else(0,false)
def cN.begin (M:cN) (A:Int):cN×Int:=
 let r:=iA C M.home A (M.W7 C A)
 if r.2.2≠0 then(M,r.2.2)
 else
  let s:=M.jT.send C r.2.1
  if s.2≠0 then(M,s.2) else((M.dH s.1).rX r.1,0)
def Row.Qd (r:Row):Int:=(if r.busy=true/\r.served.kind=0 then 1 else 0)+((r.waits.filter fun n=>decide (n.kind=0)).length:Int)
def fL (H:kP) (l:Int):Int:=if C.has l then Row.Qd (H l.toNat).1 else 0
def cN.mH (M:cN) (g:Int):Bool:=decide (M.dS.phase g=2)&& !(decide (fL C M.home (g*2)>0))&& !(decide (fL C M.home (g*2+1)>0))
def vE (H:kP) (g:Int):kP:=fun i=>if(i:Int)=g*2\/(i:Int)=g*2+1 then((H i).1,(0,0)) else H i
def cN.finish (M:cN) (A:Int):cN×Int:=
 if ¬(0<=A/\A<C.bU) then(M,10)
 else if M.mH C A=false then(M,16)
 else
  let r:=M.dS.over A
  match r.2.1 with
  |none=>(M,r.2.2)
  |some u=>cN.cC (if u.Ep then(M.sC r.1).rX (vE M.home u.cE) else M.sC r.1) u.core.toNat 0 0
structure Do where
 eI:Int
 a:Int
 b:Int
 c:Int
 deriving DecidableEq
def Do.enc (d:Do):List Value:=[I d.eI,I d.a,I d.b,I d.c]
def cN.vJ (M:cN) (d:Do):cN×Int:=
 if d.eI=0 then M.step C d.a else if d.eI=1 then M.uN C d.a d.b d.c else if d.eI=2 then M.begin C d.a else if d.eI=3 then M.finish C d.a else(M,1)
def cN.tH (M:cN):List Do->Nat->cN×Nat×Int
 |[],k=>(M,k,0)
 |d::l,k=>if(M.vJ C d).2≠0 then((M.vJ C d).1,k,(M.vJ C d).2) else cN.tH (M.vJ C d).1 l (k+1)
def cN.runs (M:cN) (l:List Do):cN:=l.foldl (fun M d=>(M.vJ C d).1) M
def cN.notes (M:cN):List aK:=(List.range C.aG.toNat).flatMap fun c=>(List.range 4).flatMap fun w=>M.jT c w
def cN.over (M:cN):Bool:=
 decide (M.notes C=[])&&((List.range C.aG.toNat).all fun i=>(M.bJ i).over&& !(M.cX i).Xe&& !(M.cL i).rQ)&&((List.range C.lines).all fun l=>decide ((M.home l).1.waits=[]))
structure MC where
 C:bM
 uR:List (List Ins)
 aHa:List Int
 zI:List Int
 words:List Int
def MC.home (c:MC):kP:=fun i=>((qX c.C.lines i).1,At.words oN c.words 0 i)
def MC.new (c:MC):cN where
 bJ:=fun i=>tJ (c.uR.getD i []) (c.aHa.getD i 0)
 cX:=fun _=>lE.new
 cL:=fun _=>Hx
 home:=c.home
 dS:=⟨c.zI.map fun o=>⟨o,false⟩,fun _=>none⟩
 jT:=fun _ _=>[]
 log:=[]
end
end Go.Mc
namespace Go.Sc
open Go Go.Ab Go.Is Go.At Go.Mc
section
def oU (w:Int):List UInt8:=if w=0 then [115,116,101,112] else if w=1 then [100,101,108,105,118,101,114] else if w=2 then [98,101,103,105,110] else if w=3 then [102,105,110,105,115,104] else []
def rO (w:List UInt8) (l:List Int):List UInt8:=if l=[] then w++[10] else w++[32]++nU l++[10]
theorem G3 {w:List UInt8} {l:List Int}:rO w l=Jt w l:=by
 unfold rO Jt;cases l with
 |nil=>simp[kQ]
 |cons x l=>
  rw[aN9 (by simp),wX];have:kQ (x::l)=32::Lib.itoa x++kQ l:=rfl;rw[this];simp
theorem zO {w:Int}:(oU w).length<=7:=by
 unfold oU;repeat' split
 all_goals decide
theorem mG {w:List UInt8} {l:List Int} (d:∀v∈l,fU v):(rO w l).length<=w.length+21*l.length+1:=by
 rw[G3];have:=oH d;unfold Jt;simp only[List.length_append,List.length_singleton];omega
def doR (d:Do):Prop:=fU d.eI/\fU d.a/\fU d.b/\fU d.c
def doV (d:Do):List UInt8:=if d.eI=1 then rO (oU d.eI) [d.a,d.b,d.c] else rO (oU d.eI) [d.a]
theorem r9 {d:Do} (h:doR d):(doV d).length<=71:=by
 obtain⟨g,j,m,o⟩:=h;have r:=zO (w:=d.eI);unfold doV;split;have:=mG (w:=oU d.eI) (l:=[d.a,d.b,d.c]) (by intro v e;simp at e;rcases e with rfl|rfl|rfl<;>assumption);simp only[List.length_cons,List.length_nil] at this;omega;have:=mG (w:=oU d.eI) (l:=[d.a]) (by intro v e;simp at e;rcases e with rfl;assumption);simp only[List.length_cons,List.length_nil] at this;omega
def Gj (l:List Do):List UInt8:=l.flatMap doV
theorem Q7:∀{l:List Do},(∀d∈l,doR d)->(Gj l).length<=71*l.length
 |[],_=>by simp[Gj]
 |d::l,h=>by
  have g:=r9 (h d List.mem_cons_self);have j:=Q7 fun x e=>h x (List.mem_cons_of_mem _ e);have:Gj (d::l)=doV d++Gj l:=rfl;rw[this];simp only[List.length_cons,List.length_append];omega
theorem yb {l:List Do} {i:Nat} {d:Do} (h:l[i]?=some d):Gj (l.take i)++doV d=Gj (l.take (i+1)):=by
 rw[List.take_add_one,h];simp[Gj]
end
end Go.Sc
namespace Go.Sc
open Go Go.Ab Go.Is Go.At Go.Mc Go.Hm
section
def gz (d:Do):Prop:=(0<=d.eI/\d.eI<=3)/\(d.eI≠1->d.b=0/\d.c=0)
def bz:List UInt8:=[99,111,114,101]
def N5 (w:Int) (p:List Ins):List UInt8:=rO bz [w]++hQ p++[101,110,100,10]
def pJ (l:List (Int×List Ins)):List UInt8:=l.flatMap fun x=>N5 x.1 x.2
def aIa (x:Int×List Ins):Prop:=fU x.1/\(∀y∈x.2,y.fU)/\(Al x.2).2=0
def Su (C:bM):List Int:=[C.aG,C.bU,C.bK,C.ways,C.depth,C.entries,C.aL]
def Ij:List UInt8:=[99,111,110,102,105,103]
def R8:List UInt8:=[111,119,110,101,114,115]
def Zd:List UInt8:=[119,111,114,100,115]
def B1 (C:bM) (os vs:List Int):List UInt8:=rO Ij (Su C)++rO R8 os++rO Zd vs
def xz (C:bM) (os vs:List Int) (l:List (Int×List Ins)) (dl:List Do):List UInt8:=B1 C os vs++pJ l++Gj dl
structure Scr where
 C:bM
 os:List Int
 vs:List Int
 cs:List (Int×List Ins)
 ds:List Do
def Scr.Good (s:Scr):Prop:=(∀v∈Su s.C,fU v)/\(∀v∈s.os,fU v)/\(∀v∈s.vs,fU v)/\(∀x∈s.cs,aIa x)/\∀d∈s.ds,gz d/\doR d
end
end Go.Sc
namespace Go.Ct
open Go Go.Ab
section
def qw (s:Array UInt8) (a b c d:Bool) (x y z:Int):List Value:=[.string ⟨s⟩,.bool a,.bool b,.bool c,.bool d,I x,I y,I z]
def iW:List Value:=qw #[73] false false false false 0 0 0++qw #[83] true false false false 0 1 0++qw #[69] true true false true 4 1 0++qw #[79] true false true true 0 3 0++qw #[77] true true true true 4 3 0
end
end Go.Ct
namespace Go.Ct
open Go Go.Ab Go.Hm
section
variable {n ways:Nat} {S:Nat->List Th} {no:Int} {x:rI}
theorem R0 {l:List Th} (h:no∉l.map (·.1)):rem no l=l:=by
 induction l with
 |nil=>rfl
 |cons t l d=>
  simp only[List.map_cons,List.mem_cons,not_or] at h;unfold rem;grind
theorem aC4 {l:List Th} (d:(l.map (·.1)).Nodup):rem no (rem no l)=rem no l:=R0 (Qs d)
theorem rl {l:List Th} (h:get no l=some x):(rem no l).length<l.length:=by
 rw[Iu,h];have:=get_mem h;grind
theorem Fc (d:(cA n S no).2=0):get no (S (setOf n no))=some (cA n S no).1/\0<=no:=by
 unfold cA at d ⊢;grind
theorem vg (e:∀i,oT ways (S i)) (g:(cA n S no).2=0):(mV n ways S no x).2=0:=by
 obtain⟨d,j⟩:=Fc g;have:=rl d;have:=(e (setOf n no)).len;unfold mV;grind
theorem aBu (d:0<=no):kL n S no (setOf n no)=rem no (S (setOf n no)):=by
 unfold kL bY;rw[aab,aNa rfl]
theorem U9 (d:∀i,oT ways (S i)) (e:(cA n S no).2=0):so n ways S no=0:=by
 obtain⟨g,j⟩:=Fc e;have:=rl g;have:=(d (setOf n no)).len;unfold so;rw[aNa e];unfold mV;rw[aBu j,aC4 (d _).nd,aab]
theorem x5 (e:∀i,oT ways (S i)) (j:0<=no) (d:(mV n ways S no x).2=0):cA n (mV n ways S no x).1 no=(x,0):=by
 unfold mV at d ⊢;split at d;cases d;rename_i g;rw[aN9 g];unfold cA bY;rw[aab];dsimp only;rw[aNa rfl,s5 (Qs (e _).nd)]
theorem qs (g:∀i,oT ways (S i)) (d:(cA n S no).2=0):cA n (Gu n ways S no) no=cA n S no:=by
 obtain⟨m,j⟩:=Fc d;have e:=U9 g d;unfold so at e;rw[aNa d] at e;unfold Gu;rw[aNa d,x5 (sE g) j e];grind
theorem Wo {S:Nat->List Th} {l d:Int} {w:Bool} (h:lJ n S l d w=true):lJ n S l d false=true:=by
 unfold lJ at h ⊢;unfold uF at h ⊢;grind [Ad,Ua]
end
end Go.Ct
section
namespace Go.Hm
open Go Go.Ab
structure sA (k:Nat) (r:Row):Prop where
 core:0<=r.served.core/\r.served.core<4
 owner: -1<=r.owner/\r.owner<4
 waits:∀n∈r.waits,n.line=k/\(0<=n.core/\n.core<4)/\(n.kind=0\/n.kind=1\/n.kind=2\/n.kind=3)
 apart:∀i:Nat,i<4->r.sh i=true->(i:Int)≠r.owner
 want:r.busy=true->r.granted=false->r.served.kind=0\/r.served.kind=2\/r.owner≠r.served.core
 still:r.granted=true\/r.busy=false->r.quiet=true
 gb:r.granted=true->r.busy=true
theorem sA.inv {k:Nat} {r:Row} (h:sA k r):r.Inv:=⟨h.core,h.owner,fun n d=>(h.waits n d).2.1⟩
theorem aK2 (k:Nat):sA k Ee:=⟨by decide,by decide,by simp[Ee],by simp[Ee],by simp[Ee],fun _=>rfl,by simp[Ee]⟩
theorem quiet_of {r r':Row} (h:r'.asked=r.asked):r'.quiet=r.quiet:=by unfold Row.quiet;rw[h]
theorem Ha {k:Nat} {r:Row} {c:Int} (h:sA k r):sA k (r.leave c) where
 core:=h.core
 owner:=by unfold Row.leave;simp only;split;omega;exact h.owner
 waits:=h.waits
 apart:=fun i j d=>by
  unfold Row.leave wY at d ⊢;simp only at d ⊢;split at d;cases d;split;omega;exact h.apart i j d
 want:=fun e g=>by
  rcases h.want e g with h|h|m;exact .inl h;exact .inr (.inl h);refine .inr (.inr ?_);have:=h.core;unfold Row.leave;grind
 still:=fun e=>(quiet_of (r':=r.leave c) rfl).trans (h.still e)
 gb:=h.gb
theorem P2 {k:Nat} {r:Row} (h:sA k r) (e:r.quiet=true):sA k r.free where
 core:=by show(0:Int)<=0/\(0:Int)<4;omega
 owner:=h.owner
 waits:=h.waits
 apart:=h.apart
 want:=fun d=>by cases d
 still:=fun _=>(quiet_of (r':=r.free) rfl).trans e
 gb:=fun d=>by cases d
theorem Oc {k:Nat} {r:Row} {n:aK} (h:sA k r) (d:n.line=k) (e:0<=n.core/\n.core<4) (g:n.kind=0\/n.kind=1\/n.kind=2\/n.kind=3):sA k (r.wait n) where
 core:=h.core
 owner:=h.owner
 waits:=fun m hm=>by
  rcases List.mem_append.1 hm with hm|hm;exact h.waits m hm;grind
 apart:=h.apart
 want:=h.want
 still:=fun d=>(quiet_of (r':=r.wait n) rfl).trans (h.still d)
 gb:=h.gb
theorem ki {k:Nat} {r:Row} {n:aK} {w:List aK} (h:sA k r) (g:r.waits=n::w):sA k (r.next w) where
 core:=h.core
 owner:=h.owner
 waits:=fun m e=>h.waits m (by rw[g];exact List.mem_cons_of_mem _ e)
 apart:=h.apart
 want:=h.want
 still:=fun d=>(quiet_of (r':=r.next w) rfl).trans (h.still d)
 gb:=h.gb
structure Fq (k:Nat) (r:Row):Prop where
 core:0<=r.served.core/\r.served.core<4
 owner: -1<=r.owner/\r.owner<4
 waits:∀n∈r.waits,n.line=k/\(0<=n.core/\n.core<4)/\(n.kind=0\/n.kind=1\/n.kind=2\/n.kind=3)
 apart:∀i:Nat,i<4->r.sh i=true->(i:Int)≠r.owner
 want:r.served.kind=0\/r.served.kind=2\/r.owner≠r.served.core
 busy:r.busy=true
 gr:r.granted=false
theorem Fq.aAe {k:Nat} {r:Row} (h:Fq k r):sA k r:=⟨h.core,h.owner,h.waits,h.apart,fun _ _=>h.want,fun d=>by rw[h.busy,h.gr] at d;simp at d,fun d=>by rw[h.gr] at d;cases d⟩
theorem Cs {k:Nat} {r:Row} {line:Int} {d:Ln} (h:Fq k r) (t:r.served.kind≠0) (m:r.quiet=true):sA k (r.gH line d).1:=by
 have u:=h.core;unfold Row.gH;split;exact⟨h.core,by simp only;omega,h.waits,fun i _ j=>(by cases j),fun _ g=>(by cases g),fun _=>m,fun _=>h.busy⟩;rename_i g;split;refine⟨h.core,by simp only;omega,h.waits,fun i o j=>?_,fun _ g=>(by cases g),fun _=>m,fun _=>h.busy⟩;simp only[wY] at j ⊢;grind;refine⟨h.core,h.owner,h.waits,fun i o j=>?_,fun _ g=>(by cases g),fun _=>m,fun _=>h.busy⟩;simp only[wY] at j ⊢;split at j;rename_i e;rcases h.want with h|h|h;exact absurd h t;exact absurd h g;grind;exact h.apart i o j
theorem zA {k:Nat} {r:Row} {l:List Nat} (h:Fq k r):sA k (r.gP l):=Fq.aAe ⟨h.core,h.owner,h.waits,h.apart,h.want,h.busy,h.gr⟩
theorem kr {k:Nat} {r:Row} {line:Int} {m:Ln} (h:Fq k r):sA k (r.rest line m).1:=by
 unfold Row.rest;split;rename_i d;split;exact P2 h.aAe d;rename_i e;exact Cs h e d;exact h.aAe
theorem Yp {k:Nat} {r:Row} {n:aK} (h:sA k r) (v:0<=n.core/\n.core<4) (t:r.asked n.core.toNat=true):Fq k (r.heard n):=by
 have o:r.quiet=false:=by
  have:n.core.toNat=0\/n.core.toNat=1\/n.core.toNat=2\/n.core.toNat=3:=by omega
  unfold Row.quiet;grind
 have e:r.granted=false:=by
  cases e:r.granted with
  |false=>rfl
  |true=>have:=h.still (.inl e);grind
 have d:r.busy=true:=by
  cases d:r.busy with
  |true=>rfl
  |false=>have:=h.still (.inr d);grind
 have g:Fq k (r.lX n):=⟨h.core,h.owner,h.waits,h.apart,h.want d e,d,e⟩;have j:Fq k ((r.lX n).Fu n):=⟨h.core,by show -1<=(-1:Int)/\(-1:Int)<4;omega,h.waits,fun i u _=>by show(i:Int)≠ -1;omega,by
  have:=h.core;right;right;show(-1:Int)≠r.served.core;omega,d,e⟩
 have m:∀{r:Row},Fq k r->Fq k (r.qW n):=fun h=>⟨h.core,h.owner,h.waits,h.apart,h.want,h.busy,h.gr⟩;unfold Row.heard;split;have:=Ha (c:=n.core) g.aAe;exact⟨this.core,this.owner,this.waits,this.apart,this.want d e,d,e⟩;split;split;exact m j;exact j;split;exact m g;exact g
theorem jt {k:Nat} {x:sV} {n:aK} (h:sA k x.1) (o:fT n.kind) (g:n.line=k) (e:0<=n.core/\n.core<4):sA k (sV.take x k n).1.1:=by
 unfold sV.take;split;split;exact h;rename_i j;have d:x.1.granted=true:=by
  cases d:x.1.granted with
  |true=>rfl
  |false=>exact absurd (.inl d) j
 exact P2 h (h.still (.inl d));split;split;exact h;rename_i m;exact kr (Yp h e (by simpa using m));rename_i r t;exact Oc h g e (by unfold fT at o;omega)
theorem H0 {r:Row} {x:Int}:∀(f i:Nat),r.Ae x f i≠ -1->r.gK x f i≠[]:=by
 intro f;induction f with
 |zero=>intro i h;exact absurd rfl h
 |succ f d=>
  intro i h;unfold Row.Ae at h;unfold Row.gK;grind
theorem Vc {r:Row} {x:Int}:∀(f i:Nat),∀c∈r.gK x f i,(c:Int)≠x:=by
 intro f;induction f with
 |zero=>intro i c d;simp[Row.gK] at d
 |succ f g=>
  intro i c d;unfold Row.gK at d;split at d;rename_i e;rcases List.mem_cons.1 d with rfl|d;unfold Row.holds at e;simp at e;exact e.1;exact g _ c d;exact g _ c d
def aK.vU (n:aK):aK:=if n.kind=0 then {n with core:= -1} else n
theorem Lh {k:Nat} {r:Row} {d:Ln} {n:aK} (o:r.served.core=n.core) (g:n.kind=1\/n.kind=2) (j:n.line=k):(∀m∈(r.gH k d).2,m.fits n.vU (r.gH k d).2.length)/\(r.gH k d).2≠[]:=by
 have t:n.vU=n:=by unfold aK.vU;rw[aab]
 rw[t];unfold Row.gH;split;refine⟨fun m e=>?_,by simp⟩;rw[List.mem_singleton.1 e];exact⟨j.symm,rfl,.inl ⟨rfl,o,rfl,g⟩⟩;split;refine⟨fun m e=>?_,by simp⟩;rw[List.mem_singleton.1 e];exact⟨j.symm,rfl,.inl ⟨rfl,o,rfl,g⟩⟩;refine⟨fun m e=>?_,by simp⟩;rw[List.mem_singleton.1 e];exact⟨j.symm,rfl,.inl ⟨rfl,o,rfl,g⟩⟩
theorem Ap {k:Nat} {n:aK} {st:Int} {l:List Nat} (g:n.line=k) (r:n.kind=1\/n.kind=2\/(n.kind=0/\st=0)) (hc:∀c∈l,(c:Int)≠n.vU.core) {len:Nat}:∀m∈gJ k st l,m.fits n.vU len:=by
 intro m j;obtain⟨c,d,rfl⟩:=List.mem_map.1 j;have e:n.vU.line=k:=by unfold aK.vU;split<;>exact g
 have o:n.vU.kind=n.kind:=by unfold aK.vU;split<;>rfl
 refine⟨e.symm,rfl,.inr (.inr (.inr ⟨rfl,rfl,hc c d,?_⟩))⟩;grind
theorem aB9 {k:Nat} {r:Row} {n:aK} {w:Int} {m:Ln} (h:sA k r) (hb:r.busy=false) (j:n.line=k) (u:0<=n.core/\n.core<4) (z:n.kind=1\/n.kind=2):
  sA k (r.get k m n w).1/\(∀x∈(r.get k m n w).2,x.fits n.vU (r.get k m n w).2.length)/\(r.get k m n w).2≠[]:=by
 have A:=h.still (.inr hb)
 have g:r.granted=false:=by
  cases g:r.granted with
  |false=>rfl
  |true=>have:=h.gb g;grind
 have y:n.vU=n:=by unfold aK.vU;rw[aab]
 unfold Row.get
 simp only
 split
 .rename_i o;have B:Fq k (r.serve n w):=⟨u,h.owner,h.waits,h.apart,.inr (.inl o),rfl,g⟩;unfold Row.getM;split
  .rename_i d;refine⟨zA B,?_,?_⟩
   .exact Ap j (.inr (.inl o)) (fun c t=>by rw[y];exact Vc 4 0 c t)
   .have:=H0 4 0 d;intro e;exact this (List.map_eq_nil_iff.1 e)
  .exact⟨Cs B (by show n.kind≠0;omega) A,Lh rfl z j⟩
 .rename_i o;have F:n.kind=1:=by omega
  have D:(r.serve n w).rM.served=n/\(r.serve n w).rM.asked=r.asked/\((r.serve n w).rM.owner= -1\/((r.serve n w).rM.owner=r.owner/\r.owner≠n.core))/\Fq k (r.serve n w).rM:=by
   unfold Row.rM;split;refine⟨rfl,rfl,.inl rfl,⟨u,by grind,h.waits,fun i _ _=>by grind,.inr (.inr ?_),rfl,g⟩⟩;show(-1:Int)≠n.core;omega;rename_i d;exact⟨rfl,rfl,.inr ⟨rfl,d⟩,⟨u,h.owner,h.waits,h.apart,.inr (.inr d),rfl,g⟩⟩
  generalize(r.serve n w).rM=r2 at D
  obtain⟨E,H,I,v⟩:=D
  unfold Row.bu
  split
  .rename_i d;refine⟨zA v,?_,by simp[gJ]⟩;refine Ap j (.inl F) (fun c t=>?_);rw[List.mem_singleton.1 t,y];have:=v.owner;omega
  .exact⟨Cs v (by rw[E];omega) (by rw[quiet_of H];exact A),Lh (by rw[E]) z j⟩
theorem ph {k:Nat} {r:Row} {n:aK} {m:Ln} {j:Int->Int×Bool} (h:sA k r) (hb:r.busy=false) (o:n.line=k) (y:0<=n.core/\n.core<4) (z:n.kind=0\/n.kind=1\/n.kind=2\/n.kind=3):
  sA k (r.begun k m n j).1.1/\(∀x∈(r.begun k m n j).2,x.fits n.vU (r.begun k m n j).2.length)/\((r.begun k m n j).2≠[]\/n.vU.kind=0):=by
 have A:=h.still (.inr hb)
 have t:r.granted=false:=by
  cases t:r.granted with
  |false=>rfl
  |true=>have:=h.gb t;rw[hb] at this;cases this
 unfold Row.begun
 split
 .rename_i v;have e:n.vU=n:=by unfold aK.vU;rw[aab]
  refine⟨Ha h,fun x u=>?_,.inl (by simp)⟩
  rw[List.mem_singleton.1 u,e]
  exact⟨o.symm,rfl,.inr (.inr (.inl ⟨rfl,rfl,rfl,rfl,v⟩))⟩
 .rename_i v;split
  .rename_i d;have e:n.vU=n:=by unfold aK.vU;rw[aab]
   split
   .obtain⟨a,b,c⟩:=aB9 (m:=m) (w:=(j n.world).1) h hb o y d;grind
   .refine⟨h,fun x u=>?_,.inl (by simp)⟩;rw[List.mem_singleton.1 u,e];exact⟨o.symm,rfl,.inr (.inl ⟨rfl,rfl,rfl,rfl,d⟩)⟩
  .rename_i d;have g:n.kind=0:=by omega
   have e:n.vU={n with core:= -1}:=by unfold aK.vU;rw[aNa g]
   split
   .grind
   .refine⟨zA (r:=r.Lc n) ⟨y,h.owner,h.waits,h.apart,.inl g,rfl,t⟩,?_,.inr (by rw[e];exact g)⟩;exact Ap o (.inr (.inr ⟨g,rfl⟩)) (fun c _=>by grind)
end Go.Hm
namespace Go.Hm
open Go Go.Ab
theorem zD {r:Row} {line:Int} {d:Ln}:(r.gH line d).1.waits=r.waits:=by
 unfold Row.gH;grind
theorem bc {r:Row} {line:Int} {m:Ln}:(r.rest line m).1.waits=r.waits:=by
 unfold Row.rest;split;split;rfl;exact zD;rfl
theorem Vp {r:Row} {n:aK}:(r.heard n).waits=r.waits:=by
 unfold Row.heard;repeat' split
 all_goals rfl
theorem mo {r:Row} {line:Int} {m:Ln} {n:aK} {w:Int}:(r.get line m n w).1.waits=r.waits:=by
 have d:(r.serve n w).rM.waits=r.waits:=by unfold Row.rM;split<;>rfl
 unfold Row.get;simp only;split;unfold Row.getM;split;rfl;exact zD;unfold Row.bu;split;exact d;rw[zD];exact d
theorem Tm {r:Row} {line:Int} {m:Ln} {n:aK} {j:Int->Int×Bool}:(r.begun line m n j).1.1.waits=r.waits:=by
 unfold Row.begun;split;rfl;split;split;exact mo;rfl;split<;>rfl
theorem Fv {r:Row} {line:Int} {d:Ln}:(r.gH line d).2.length<=4:=by
 unfold Row.gH;grind
theorem Cw {line st:Int} {l:List Nat}:(gJ line st l).length=l.length:=by simp[gJ]
theorem aDi {r:Row} {line:Int} {m:Ln} {n:aK} {w:Int}:(r.get line m n w).2.length<=4:=by
 unfold Row.get;simp only;split;unfold Row.getM;split;rw[Cw];exact uI;exact Fv;unfold Row.bu;split;simp[Cw];exact Fv
theorem iv {r:Row} {line:Int} {m:Ln} {n:aK} {j:Int->Int×Bool}:(r.begun line m n j).2.length<=4:=by
 unfold Row.begun;split;simp;split;split;exact aDi;simp;split;simp;rw[Cw];exact uI
theorem Rq {C:bM} {H:kP} {l:Int} {j:Int->Int×Bool}:(iA C H l j).2.1.length<=4:=by
 unfold iA;split;unfold sV.begin;split;simp;split;simp;exact iv;simp
end Go.Hm
end
namespace Go.Mc
open Go Go.Ab Go.Hm Go.At Go.Is Go.Ct Go.Nt
section
structure hJ (C:bM) (m:Mon):Prop where
 len:m.fY.length=C.bU.toNat
 own:∀x∈m.fY,0<=x.owner/\x.owner<=4
 run:∀g r,m.runs g=some r->(g:Int)<C.bU/\r.cE=g/\(r.phase=1\/r.phase=2)/\(0<=r.core/\r.core<C.aG)/\(0<=r.then'/\r.then'<=4)
def qe (Cf:bM) (F:fM):Prop:=∀c w,(F c w).length<=Cf.depth
theorem hJ.Bp {C:bM} {m:Mon} (h:hJ C m) {g:Int} (d:m.has g):0<=(m.Bp g).owner/\(m.Bp g).owner<=4:=by
 refine h.own _ ?_;unfold Mon.has at d;unfold Mon.Bp;grind
theorem hJ.aI5 {C:bM} {m:Mon} (hC:C.Ok) (d:hJ C m):∀g r,m.runs g=some r->g<16:=by
 intro g r e;have:=(d.run g r e).1;have:=hC.2.1;omega
theorem qe.W9 {Cf:bM} {F:fM} (hC:Cf.Ok) (h:qe Cf F):∀c w,(F c w).length<=500:=by
 intro c w;have:=h c w;have:=hC.2.2.2.2.1;omega
structure uf (Cf:bM) (M:cN) (i:Nat):Prop where
 dS:hJ Cf M.dS
 vF:(M.bJ i).Ok
 Hh:mL Cf (M.cX i)
 An:(M.cL i).known.length<=100
 jT:qe Cf M.jT
 log:M.log.length<=2^30
structure xW (Cf:bM) (M:cN) (n:aK):Prop where
 core:0<=n.core/\n.core<Cf.aG
 dS:hJ Cf M.dS
 home:yD Cf M.home (2^30 - 4)
 Hh:mL Cf (M.cX n.core.toNat)
 An:(M.cL n.core.toNat).known.length<=100
 cE:0<=(M.cL n.core.toNat).cE/\(M.cL n.core.toNat).cE<Cf.bU
 word:n.kind=12->0<=n.d0/\n.d0<=1000000
structure jf (C:bM) (n:aK):Prop where
 An:An C n=0
 word:n.kind=12->0<=n.d0/\n.d0<=1000000
def S8 (C:bM) (N:Nat) (H:kP):Prop:=∀l,l<C.lines->sA l (H l).1/\(H l).1.waits.length<=N
structure Jx (C:bM) (F:fM):Prop where
 len:qe C F
 note:∀c w,∀n∈F c w,jf C n/\n.core.toNat=c/\fV n=w
def yF (C:bM) (c:mP):Prop:=(c.known.length:Int)<=C.entries/\0<=c.cE/\c.cE<C.bU
structure eK (C:bM) (N:Nat) (M:cN):Prop where
 dS:hJ C M.dS
 vF:∀i:Nat,(i:Int)<C.aG->(M.bJ i).Ok
 Hh:∀i:Nat,(i:Int)<C.aG->mL C (M.cX i)
 An:∀i:Nat,(i:Int)<C.aG->yF C (M.cL i)
 home:S8 C N M.home
 jT:Jx C M.jT
 log:M.log.length<=N
variable {C:bM} {N:Nat} {M:cN}
theorem S8.h {H:kP} (h:S8 C N H) {K:Nat} (e:N<=K):yD C H K:=fun l d=>⟨(h l d).1.inv,Nat.le_trans (h l d).2 e⟩
theorem yF.len (hC:C.Ok) {c:mP} (h:yF C c):c.known.length<=100:=by
 have:=h.1;have:C.entries<=8:=by unfold bM.Ok at hC;omega
 omega
theorem eK.step (h:eK C N M) (hC:C.Ok) (e:N<=2^29) {i:Nat} (d:(i:Int)<C.aG):uf C M i:=⟨h.dS,h.vF i d,h.Hh i d,(h.An i d).len hC,h.jT.len,by have:=h.log;omega⟩
theorem T6 {n:aK} (h:An C n=0):Sw n.kind/\0<=n.core/\n.core<C.aG:=by
 unfold Nt.An at h;split at h
 .rename_i j;split at h
  .split at h
   .rename_i r;refine⟨j,?_⟩;have d:=r.1;unfold Sw at j;have:∃g,Dz n.kind.toNat=1::g:=by
     rcases k14 (k:=n.kind.toNat) (by omega) with e|e|e|e|e|e|e|e|e|e|e|e|e|e;omega;all_goals rw[e];exact⟨_,rfl⟩
    obtain⟨g,m⟩:=this;rw[m] at d;unfold qN at d;split at d;rename_i o;exact o;cases d
   cases h
  cases h
 cases h
theorem kn {n:aK} (h:An C n=0) (e:n.kind=8):n.state=1\/n.state=2\/n.state=4:=by
 unfold Nt.An at h;rw[e] at h;split at h;split at h;split at h;rename_i j;have d:=j.1;rw[show Dz (8:Int).toNat=[1,2,4,6,8,9] from rfl] at d;simp only[qN] at d;split at d;split at d;split at d;split at d;rename_i g;exact g;cases d;cases d;cases d;cases d;cases h;cases h;cases h
theorem V4 {F:fM} {a b c:Int} (hF:Jx C F) (d:(F.take C a b c).2.2=0):jf C (F.take C a b c).2.1/\(F.take C a b c).2.1∈F a.toNat b.toNat:=by
 unfold fM.take at d ⊢;by_cases j:(0<=a/\a<C.aG)/\(0<=b/\b<4);rw[aN9 (fun h=>h j)] at d ⊢;dsimp only at d ⊢;by_cases e:F a.toNat b.toNat=[];grind;rw[aN9 e];have t:0<(F a.toNat b.toNat).length:=List.length_pos_iff.2 e;have r:(c % ((F a.toNat b.toNat).length:Int)).toNat<(F a.toNat b.toNat).length:=by
  have m:=Int.emod_nonneg c (show((F a.toNat b.toNat).length:Int)≠0 by omega);have o:=Int.emod_lt_of_pos c (show(0:Int)<((F a.toNat b.toNat).length:Int) by omega);omega
 have g:(F a.toNat b.toNat).getD (c % ((F a.toNat b.toNat).length:Int)).toNat aK.zero∈F a.toNat b.toNat:=by
  grind
 exact⟨(hF.note _ _ _ g).1,g⟩;grind
theorem Wd {F:fM} {a b c:Int} (hF:Jx C F):Jx C (F.take C a b c).1:=by
 unfold fM.take;split;exact hF;dsimp only;split;exact hF;constructor;intro x y;unfold fM.set;dsimp only;split;rename_i e;have:=hF.len x y;grind;exact hF.len x y;intro x y n d;unfold fM.set at d;dsimp only at d;split at d;rename_i e;have:=hF.note _ _ n (List.mem_of_mem_eraseIdx d);grind;exact hF.note x y n d
theorem aAo {F:fM} {n:aK} (hF:Jx C F) (j:jf C n) (g:((F n.core.toNat (fV n)).length:Int)<C.depth):Jx C (F.put n):=by
 constructor;intro x y;unfold fM.put fM.set;split;grind;exact hF.len x y;intro x y k d;unfold fM.put fM.set at d;split at d;rename_i e;rcases List.mem_append.1 d with d|d;rw[e.1,e.2];exact hF.note _ _ k d;grind;exact hF.note x y k d
theorem y2:∀{l:List aK} {F d:fM},Jx C F->(∀n∈l,jf C n)->fM.Du C.depth F l=some d->Jx C d:=by
 intro l;induction l with
 |nil=>intro F d hF _ h;cases h;exact hF
 |cons n l m=>
  intro F d hF e h;unfold fM.Du at h;split at h;rename_i g;exact m (aAo hF (e n List.mem_cons_self) g) (fun k j=>e k (List.mem_cons_of_mem _ j)) h;cases h
theorem Vh:∀{l:List aK},cL C l=0->∀n∈l,Nt.An C n=0
 |[],_,n,d=>by cases d
 |k::l,h,n,d=>by
  unfold cL at h;split at h;grind;rename_i e;rcases List.mem_cons.1 d with rfl|d;simpa using e;exact Vh h n d
theorem zV {F:fM} {l:List aK} (hF:Jx C F) (j:∀n∈l,n.kind=12->0<=n.d0/\n.d0<=1000000):Jx C (F.send C l).1:=by
 unfold fM.send;split;exact hF;rename_i e;split;rename_i m g;exact y2 hF (fun n d=>⟨Vh (by simpa using e) n d,j n d⟩) g;exact hF
theorem Mz {s:aX} (d:s.Ok) (h:s.over=false):Fits (vM s.prog s.at') s.prog.length/\s.at'<s.prog.length:=by
 have e:=d.2.2.1;rw[h] at e;have g:=Sz e.symm;exact⟨Ui (d.2.2.2.2 _ (J4 d.1 g)),g⟩
theorem nZ {s t:aX} {a:Int} (d:s.Ok) (g:t.prog=s.prog) (e:0<=a) (j:a<=s.prog.length):(t.rA a).Ok:=by
 unfold aX.Ok aX.rA;dsimp only;rw[g];exact⟨e,by have:=d.2.2.2.1;omega,rfl,d.2.2.2.1,d.2.2.2.2⟩
theorem ue {s:aX} {i:Nat} {r:aX×Ev} (d:s.Ok) (h:aX.mT s i=some r):r.1.Ok:=by
 unfold aX.mT aX.next? at h;cases hov:s.over with
 |true=>grind
 |false=>
  rw[hov] at h;simp only[Bool.false_eq_true,if_false] at h;obtain⟨g,m⟩:=Mz d hov;have j:=d.1;split at h;cases h;exact nZ d rfl (by omega) (by omega);split at h;cases h;exact nZ d rfl (by omega) (by omega);split at h;cases h;exact nZ d rfl (by omega) (by omega);split at h;split at h;cases h;exact nZ d rfl (by omega) (by omega);cases h;exact nZ d rfl (by omega) (by omega);split at h;rename_i e;have:=g.p1 e;cases h;exact nZ d rfl (by omega) (by omega);split at h;rename_i e;have:=g.p2 e;cases h;refine nZ d rfl ?_ ?_;split<;>omega;split<;>omega;cases h
theorem pf {s:aX} {i:Nat} {v c:Int} (d:s.Ok):(aX.cC s i v c).1.Ok:=by
 unfold aX.cC;cases hn:aX.next? s with
 |none=>exact d
 |some x=>
  have e:s.over=false:=by
   unfold aX.next? at hn;cases h:s.over with
   |false=>rfl
   |true=>rw[h] at hn;simp at hn
  obtain⟨j,m⟩:=Mz d e;have g:=d.1;dsimp only;split;exact nZ d rfl (by omega) (by omega);split;split;exact d;split;exact nZ d rfl (by omega) (by omega);split;exact nZ d rfl (by omega) (by omega);exact nZ d rfl (by omega) (by omega);exact d
theorem ra (hC:C.Ok) {c:mP} {f:Int×Int} (h:yF C c):yF C (c.Jf C f):=by
 have d:1<=C.entries:=by unfold bM.Ok at hC;omega
 refine⟨?_,h.2⟩;unfold mP.Jf;dsimp only;have:=h.1;grind
theorem jd {c:mP} {g:Int} (h:yF C c):yF C (c.begin C g).1:=by
 unfold mP.begin;split;exact h;rename_i d;split;exact h;split;exact h;refine⟨h.1,?_⟩;show 0<=g/\g<C.bU;simpa using d
theorem nw (hC:C.Ok) {c:mP} {a w:Int} (h:yF C c):yF C (c.walked C a w).1:=by
 have d:1<=C.bU:=hC.2.1.1;unfold mP.walked;split;exact h;split;exact h;split;exact h;dsimp only;split;exact h;split;exact h;split;exact h;refine⟨(ra hC h).1,?_⟩;show(0:Int)<=0/\(0:Int)<C.bU;omega
theorem aDn {c:mP} {g:Int} (h:yF C c):yF C (c.drop C g).1:=by
 unfold mP.drop;split;exact h;refine⟨?_,h.2⟩;have:=List.length_filter_le (fun x:Int×Int=> !decide (g= -1\/x.1=g)) c.known;have:=h.1;dsimp only;omega
end
end Go.Mc
