/- A part of the proof. -/
import Derived.Test.YtajjljbmfdboaaaGreatDoorR12
import Derived.Test.YtajjljbmfdboaaaGreatDoorR15
import Derived.Test.YtajjljbmfdboaaaGreatDoorR10
import Derived.Test.YtajjljbmfdboaaaGreatDoorR11
namespace Go.Mc
open Go Go.Ab Go.Hm Go.At Go.Is Go.Ct Go.Nt
section
variable {C:bP} {N:Nat} {M:dB}
def rp (i:Nat) (s:aK) (x:Ev):Option aK:=match aK.gU s i with
 |some r=>if r.2=x then some r.1 else none
 |none=>if(aK.bI s i x.value x.code).2.2=0/\(aK.bI s i x.value x.code).2.1=x then some (aK.bI s i x.value x.code).1 else none
theorem Jt {s:aK} {i:Nat} {r:aK×Ev} (h:aK.gU s i=some r):r.2.core=i:=by
 unfold aK.gU at h;cases hn:aK.next? s with
 |none=>rw[hn] at h;cases h
 |some x=>
  rw[hn] at h;dsimp only at h;repeat' split at h
  all_goals first|cases h|skip
  all_goals rfl
theorem vn {s:aK} {i:Nat} {r:aK×Ev} (h:aK.gU s i=some r):rp i s r.2=some r.1:=by
 unfold rp;grind
theorem Ru {s:aK} {i:Nat} {v c:Int} (h:(aK.bI s i v c).2.2=0):aK.gU s i=none:=by
 unfold aK.bI at h;unfold aK.gU;cases hn:aK.next? s with
 |none=>rfl
 |some x=>
  rw[hn] at h;dsimp only at h ⊢;unfold xN at h;grind
theorem uR {s:aK} {i:Nat} {v c:Int} (h:(aK.bI s i v c).2.2=0):(aK.bI s i v c).2.1.core=i:=by
 unfold aK.bI at h ⊢;cases hn:aK.next? s with
 |none=>rw[hn] at h;cases h
 |some x=>
  rw[hn] at h;dsimp only at h ⊢;repeat' split at h
  all_goals first|cases h|skip
  all_goals simp_all [aK.ev]
theorem Oz {s:aK} {i:Nat} {v c:Int} (h:(aK.bI s i v c).2.2=0):rp i s (aK.bI s i v c).2.1=some (aK.bI s i v c).1:=by
 unfold rp;rw[Ru h];dsimp only;have e:aK.bI s i (aK.bI s i v c).2.1.value (aK.bI s i v c).2.1.code=aK.bI s i v c:=by
  unfold aK.bI at h ⊢;cases hn:aK.next? s with
  |none=>rfl
  |some x=>
   rw[hn] at h;dsimp only at h ⊢;unfold aK.ev;grind
 grind
def rc (m:Mon) (g:Nat):Option Int:=(m.runs g).map jE.core
structure T0 (M:dB):Prop where
 op:∀g c,rc M.cE g=some c->∃x,aK.next? (M.aC c.toNat)=some x/\x.op=8
 one:∀g g' c,rc M.cE g=some c->rc M.cE g'=some c->g=g'
theorem Of (hC:C.Ok) {m:Mon} (a:iA C m) {c:Int}:m.calls c=true↔∃g,rc m g=some c:=by
 unfold Mon.calls Mon.running rc;rw[List.any_eq_true];constructor;rintro ⟨g,b,h⟩;unfold Mon.lX at h;grind;rintro ⟨g,h⟩;cases hr:m.runs g with
 |none=>rw[hr] at h;cases h
 |some r=>
  rw[hr] at h;have:=a.aGp hC g r hr;refine⟨g,List.mem_filter.2 ⟨List.mem_range.2 this,by rw[hr];rfl⟩,?_⟩;unfold Mon.lX;grind
inductive Out (C:bP) (d:Do) (M M':dB):Prop where
 |same (h1:M'.aC=M.aC) (h2:M'.log=M.log) (h3:∀g,rc M'.cE g=rc M.cE g)
 |ev (i:Nat) (s:aK) (v:Ev) (hi:(i:Int)<C.aE) (hd:d.nM=0/\d.a=i) (hw:M.cE.calls i=false) (h1:M'.aC=aS M.aC i s) (h2:M'.log=M.log++[v]) (hc:v.core=i) (hr:rp i (M.aC i) v=some s) (h3:∀g,rc M'.cE g=rc M.cE g)
 |ask (i g:Nat) (hi:(i:Int)<C.aE) (hd:d.nM=0/\d.a=i) (hw:M.cE.calls i=false) (h1:M'.aC=M.aC) (h2:M'.log=M.log) (hx:∃x,aK.next? (M.aC i)=some x/\x.op=8) (h3:∀g',rc M'.cE g'=if g'=g then some (i:Int) else rc M.cE g') (h0:rc M.cE g=none)
 |fin (i g:Nat) (s:aK) (v:Ev) (hi:(i:Int)<C.aE) (hd:d.nM=3) (hg:rc M.cE g=some (i:Int)) (h1:M'.aC=aS M.aC i s) (h2:M'.log=M.log++[v]) (hc:v.core=i) (ho:v.op=8/\v.code=0) (ha:s.at'=(M.aC i).at'+1) (hr:rp i (M.aC i) v=some s) (h3:∀g',rc M'.cE g'=if g'=g then none else rc M.cE g')
theorem yI {d:Do} {i:Nat} {v c:Int} (b:(i:Int)<C.aE) (a:d.nM=0/\d.a=i) (e:M.cE.calls i=false):Out C d M (M.bI i v c).1:=by
 unfold dB.bI;dsimp only;split;exact .same rfl rfl fun _=>rfl;rename_i h;have h:(aK.bI (M.aC i) i v c).2.2=0:=Decidable.not_not.1 h;exact .ev i _ _ b a e rfl rfl (uR h) (Oz h) fun _=>rfl
theorem aD3 {s:aK} {i:Nat} {a:Mc.Ask} (h:aK.sL s i=some a):a.core=i/\∃x,aK.next? s=some x/\x.op=8:=by
 unfold aK.sL at h;grind
theorem va {d:Do} {i:Nat} {a:Mc.Ask} (u:eI C N M) (k:(i:Int)<C.aE) (j:d.nM=0/\d.a=i) (o:M.cE.calls i=false) (v:aK.sL (M.aC i) i=some a):Out C d M (M.call C i a).1:=by
 obtain⟨s,t⟩:=aD3 v;unfold dB.call;dsimp only;split;exact yI k j o
 .rename_i b;split;exact .same rfl rfl fun _=>rfl
  .have b:(M.cE.call C.aE a).2.2=0:=Decidable.not_not.1 b;have f:rc M.cE a.bK.toNat=none:=by
    unfold Mon.call at b;split at b;cases b;split at b;cases b;rename_i g;split at b;cases b;rename_i e;have q:0<=a.bK:=(Decidable.not_not.1 g).1;have e:M.cE.phase a.bK=0:=Decidable.not_not.1 e;unfold Mon.phase Mon.run at e;rw[aJ7 q] at e;unfold rc;cases hr:M.cE.runs a.bK.toNat with
    |none=>rfl
    |some r=>rw[hr] at e;have:=(u.cE.run _ r hr).2.2.1;grind
   refine .ask i a.bK.toNat k j o rfl rfl t (fun p=>?_) f;show rc (M.cE.call C.aE a).1 p=_;unfold Mon.call at b ⊢;repeat' split at b
   all_goals first|(exfalso;revert b;simp;done)|skip
   rename_i x g e y;rw[aJ6 x,aJ6 g,aJ6 e,aJ6 y];dsimp only at b ⊢;split at b;grind;rename_i n5;rw[aJ6 n5];unfold rc Mon.cR aS;dsimp only;split;show some a.core=_;rw[s];rfl
theorem Wr {d:Do} {i:Nat} {a:Acc} (q:(i:Int)<C.aE) (j:d.nM=0/\d.a=i) (t:M.cE.calls i=false):Out C d M (M.access C i a).1:=by
 have same:∀{r:dB},r.aC=M.aC->r.log=M.log->r.cE=M.cE->Out C d M r:=fun a b c=> .same a b fun g=>by rw[c]
 unfold dB.access;split;exact yI q j t;dsimp only;split;grind;split;unfold dB.walk;grind;split;exact yI q j t;split;unfold dB.want;grind;unfold dB.gI;dsimp only;rcases yI (C:=C) (M:=M.uG i (if a.write=true then iU C (if a.read=true then mL C (M.dG i) (a.word/2) (a.word % 2) (M.known i (a.word/2/2)) else M.dG i) (a.word/2) (a.word % 2) (M.known i (a.word/2/2)) a.value else if a.read=true then mL C (M.dG i) (a.word/2) (a.word % 2) (M.known i (a.word/2/2)) else M.dG i)) (d:=d) (v:=if a.read=true then Er C (M.dG i) (a.word/2) (a.word % 2) else 0) (c:=0) q j t with⟨a,b,c⟩|⟨i,s,v,a,b,c,e,f,g,k,l⟩|⟨i,g,a,b,c,e,f,k,l,z⟩|⟨i,g,s,v,a,b,c,e,f,k,l,n,o,p⟩;exact .same a b c;exact .ev i s v a b c e f g k l;exact .ask i g a b c e f k l z;grind
theorem M4 {m:Mon} {g c:Int}:∀k,rc (m.dropped C.aE g c).1 k=rc m k:=by
 intro k;unfold Mon.dropped;split;rfl;split;rfl;rename_i r a;split;rfl;split;rfl;unfold Mon.run at a;split at a;unfold rc Mon.cR aS;dsimp only;split;rename_i e;subst e;rw[a];rfl;rfl;cases a
theorem G3 {n:aJ}:(M.fI C n).1.aC=M.aC/\(M.fI C n).1.log=M.log/\∀g,rc (M.fI C n).1.cE g=rc M.cE g:=by
 unfold dB.fI;repeat' split
 all_goals first
  |exact⟨rfl,rfl,fun _=>rfl⟩
  |skip
 dsimp only;split;exact⟨rfl,rfl,fun g=>M4 g⟩;exact⟨rfl,rfl,fun g=>M4 g⟩
theorem x8 {m:Mon} {g:Int} {u:Mc.jE} (h:(m.over g).2.1=some u):rc m g.toNat=some u.core/\∀k,rc (m.over g).1 k=if k=g.toNat then none else rc m k:=by
 unfold Mon.over at h ⊢;split at h;cases h;rename_i a;rw[aJ6 a];cases hr:m.run g with
 |none=>rw[hr] at h;cases h
 |some r=>
  rw[hr] at h;dsimp only at h ⊢;split at h;cases h;rename_i b;rw[aJ6 b];cases h;unfold Mon.run at hr;split at hr;refine⟨by unfold rc;rw[hr];rfl,fun k=>?_⟩;unfold rc Mon.cR aS;dsimp only;split;rfl;rfl;cases hr
theorem y3 (_:C.Ok) (t:eI C N M) (B:T0 M) {d:Do}:Out C d M (M.C9 C d).1:=by
 have same:∀{r:dB},r.aC=M.aC->r.log=M.log->(∀g,rc r.cE g=rc M.cE g)->Out C d M r:=fun a b c=> .same a b c;unfold dB.C9;split;rename_i p;unfold dB.step;split;grind;rename_i o;have o:0<=d.a/\d.a<C.aE:=Decidable.not_not.1 o;have j:((d.a.toNat:Nat):Int)<C.aE:=by omega
 have e:d.nM=0/\d.a=(d.a.toNat:Nat):=⟨p,by omega⟩;dsimp only;split;grind;split;grind;rename_i f;have f:M.cE.calls ((d.a.toNat:Nat):Int)=false:=by
  rw[<-e.2];unfold dB.waits at f;simpa using f
 split;rename_i r v;exact .ev _ _ _ j e f rfl rfl (Jt v) (vn v) fun _=>rfl;split;rename_i a o;exact va t j e f o;split;exact Wr j e f;grind
 .split
  .unfold dB.sB;dsimp only;repeat' split
   all_goals first
    |exact same rfl rfl fun _=>rfl
    |exact same G3.1 G3.2.1 G3.2.2
  split;unfold dB.begin;grind;split;rename_i p;unfold dB.finish;split;grind;split;grind;dsimp only;split;grind;rename_i u y;obtain⟨s,J⟩:=x8 y;have D:=(Vr (g:=d.a) t.cE).2 u y;obtain⟨i,j⟩:=Int.eq_ofNat_of_zero_le D.1;obtain⟨x,E,A⟩:=B.op _ _ s;have z:u.core.toNat=i:=by omega
  rw[z] at E ⊢;have F:∀P:dB,P.aC=M.aC->P.log=M.log->(∀g,rc P.cE g=if g=d.a.toNat then none else rc M.cE g)->Out C d M (P.bI i 0 0).1:=by
   intro P p1 K I;have k:aK.bI (P.aC i) i 0 0=(((M.aC i).cR x.b 0).fM ((M.aC i).at'+1),aK.ev (M.aC i) i x ((M.aC i).cB x.b.toNat) ((M.aC i).cB x.c.toNat) 0,0):=by
    rw[p1];unfold aK.bI;grind
   have q:(aK.bI (M.aC i) i 0 0).2.2=0:=by rw[<-p1,k]
   unfold dB.bI;dsimp only;rw[aJ6 (by rw[k];simp)];refine .fin i d.a.toNat (aK.bI (P.aC i) i 0 0).1 (aK.bI (P.aC i) i 0 0).2.1 (by omega) p (by rw[s,j]) (by grind) (by grind) ?_ ?_ ?_ ?_ I;rw[p1];exact uR q;rw[k];exact⟨A,rfl⟩;rw[k];rfl;rw[p1];exact Oz q
  grind;grind
end
section
variable {C:bP} {N:Nat} {M M':dB} {d:Do}
theorem ba {m:Mon} (a:iA C m) {g:Nat} {c:Int} (h:rc m g=some c):0<=c/\c<C.aE:=by
 unfold rc at h;cases hr:m.runs g with
 |none=>rw[hr] at h;cases h
 |some r=>
  rw[hr] at h;cases h;exact(a.run g r hr).2.2.2.1
theorem T0.out (hC:C.Ok) (u:eI C N M) (o:T0 M) (E:Out C d M M'):T0 M':=by
 have x:∀{i:Nat},M.cE.calls i=false->∀g c,rc M.cE g=some c->c.toNat≠i:=by
  intro i O g c f e;have q:=ba u.cE f;have:c=i:=by omega
  subst this;have:=(Of hC u.cE).2 ⟨g,f⟩;grind
 cases E with
 |same q t j=>exact⟨fun g c f=>by rw[q];exact o.op g c (by rw[<-j];exact f),fun g p c a b=>o.one g p c (by rw[<-j];exact a) (by rw[<-j];exact b)⟩
 |ev i s v A z B q t D F j=>
  refine⟨fun g c f=>?_,fun g p c a b=>o.one g p c (by rw[<-j];exact a) (by rw[<-j];exact b)⟩;rw[j] at f;rw[q];unfold aS;rw[aJ6 (x B g c f)];exact o.op g c f
 |ask i g A z B q t I j=>
  constructor;intro p c f;rw[j] at f;rw[q];split at f;cases f;exact I;exact o.op p c f;intro g1 g2 c a b;rw[j] at a b;split at a;grind;split at b;grind;exact o.one g1 g2 c a b
 |fin i g s v A z f q t D R K F j=>
  constructor;intro p c k;rw[j] at k;split at k;cases k;rename_i y;rw[q];unfold aS;have J:=ba u.cE k;rw[aJ6 (fun e=>y (o.one p g c k (by grind)))];exact o.op p c k;intro g1 g2 c a b;rw[j] at a b;split at a;cases a;split at b;cases b;exact o.one g1 g2 c a b
def mr (i:Nat) (s:aK):List Ev->Option aK
 |[]=>some s
 |x::l=>if x.core=i then(match rp i s x with|some t=>mr i t l|none=>none) else mr i s l
theorem P4 {i:Nat}:∀{l:List Ev} {s t:aK} {x:Ev},mr i s l=some t->mr i s (l++[x])=if x.core=i then rp i t x else some t
 |[],s,t,x,h=>by
  cases h;show mr i s [x]=_;unfold mr;split;cases rp i s x<;>rfl;rfl
 |y::l,s,t,x,h=>by
  rw[List.cons_append];unfold mr at h ⊢;split;rename_i e;rw[aJ7 e] at h;cases hr:rp i s y with
  |none=>rw[hr] at h;cases h
  |some u=>rw[hr] at h;exact P4 h
  rename_i e;rw[aJ6 e] at h;exact P4 h
def RPs (C:bP) (S:Nat->aK) (M:dB):Prop:=∀i:Nat,(i:Int)<C.aE->mr i (S i) M.log=some (M.aC i)
theorem RPs.out {S:Nat->aK} (h:RPs C S M) (u:Out C d M M'):RPs C S M':=by
 have one:∀{i:Nat} {s:aK} {v:Ev},M'.aC=aS M.aC i s->M'.log=M.log++[v]->v.core=i->rp i (M.aC i) v=some s->RPs C S M':=by
  intro i s v a b k o j t;rw[a,b,P4 (h j t)];unfold aS;by_cases e:j=i;subst e;rw[aJ7 k,aJ7 rfl];exact o;grind
 cases u with
 |same a b p=>intro i f;rw[a,b];exact h i f
 |ev i s v f q x a b k o p=>exact one a b k o
 |ask i g f q x a b B p=>intro i f;rw[a,b];exact h i f
 |fin i g s v f q z a b k A y o p=>exact one a b k o
structure xy (C:bP) (S:Nat->aK) (N:Nat) (M:dB):Prop where
 inv:eI C N M
 wait:T0 M
 mr:RPs C S M
theorem xy.C9 {S:Nat->aK} (hC:C.Ok) (h:xy C S N M):xy C S (N+2) (M.C9 C d).1:=by
 have a:=y3 (d:=d) hC h.inv h.wait;exact⟨aBg h.inv hC,h.wait.out hC h.inv a,h.mr.out a⟩
theorem xy.len {S:Nat->aK} (h:xy C S N M):M.log.length<=N:=h.inv.log
theorem xy.runs {S:Nat->aK} (hC:C.Ok):∀{l:List Do} {N:Nat} {M:dB},xy C S N M->xy C S (N+2*l.length) (M.runs C l):=by
 intro l;induction l with
 |nil=>intro N M h;exact h
 |cons d l a=>
  intro N M h;have:=a (h.C9 (d:=d) hC);rw[List.length_cons,show N+2*(l.length+1)=N+2+2*l.length by omega];exact this
theorem wm:(M.wI C [d] 0).1=(M.C9 C d).1:=by
 unfold dB.wI;split;rfl;rfl
end
end Go.Mc
namespace Go.Proofs.YtajjljbmfdboaaaGreatDoor
open Go Go.Ab Go.Hm Go.At Go.Mc Go.Ct Go.Nt Go.Is
section
theorem Pq {C:bP} {ps:List (List Ins)} {ws os vs:List Int} (h:oI C ps ws os vs=0):∀i:Nat,(i:Int)<C.aE->(ga ps ws i).Ok:=by
 obtain⟨hC,k,o,p,q,e,s,t⟩:=Ge h;intro i u;have b:i<ps.length:=by omega
 have g:ps.getD i []∈ps:=by rw[List.getD_eq_getElem?_getD,List.getElem?_eq_getElem b];exact List.getElem_mem _
 have a:=A.Af e _ g;have f:=A.Gz a;refine⟨show(0:Int)<=0 by decide,show(0:Int)<=32 by decide,rfl,f,fun x j=>?_⟩;unfold kL at a;rw[aaa] at a;exact Qw _ _ a x j
theorem zi {C:bP} {ps:List (List Ins)} {ws os vs:List Int} (h:oI C ps ws os vs=0):eI C 0 (MC.new ⟨C,ps,ws,os,vs⟩):=by
 obtain⟨hC,t,u,a,v,y,z,b⟩:=Ge h;refine⟨⟨?_,?_,fun g r q=>by cases q⟩,Pq h,fun i f=>Vt,fun i f=>⟨?_,?_⟩,fun l j=>?_,⟨fun c w=>?_,fun c w n k=>by cases k⟩,Nat.le_refl 0⟩;show(os.map fun o=>(⟨o,false⟩:hZ)).length=_;rw[List.length_map];exact a;intro x s;obtain⟨o,p,rfl⟩:=List.mem_map.1 s;exact b o p;show((0:Nat):Int)<=C.entries;have:1<=C.entries:=by unfold bP.Ok at hC;omega
 omega;show(0:Int)<=0/\(0:Int)<C.aN;have:=hC.2.1.1;omega;have e:((MC.new ⟨C,ps,ws,os,vs⟩).home l).1=wO:=by
  show(rR C.lines l).1=wO;unfold rR;rw[aJ7 j]
 rw[e];exact⟨aBr l,Nat.zero_le _⟩;show((0:Nat):Int)<=C.depth;have:1<=C.depth:=hC.2.2.2.2.1.1;omega
theorem z7 {C:bP} {ps:List (List Ins)} {ws os vs:List Int} (h:oI C ps ws os vs=0):Mc.xy C (ga ps ws) 0 (MC.new ⟨C,ps,ws,os,vs⟩):=
 ⟨zi h,⟨(fun g c a=>by cases a),(fun g b c a=>by cases a)⟩,fun i e=>rfl⟩
theorem vf {a b:Ev} {k:Value->Prop} (f:k (.bool (decide (a≠b)))) {e:Bool} (hc:e=true:=by kernel_rfl):Nb e [0,0,0,0,0,0,0] .neq (.agg ⟨a.enc⟩) (.agg ⟨b.enc⟩) k:=by
 refine⟨hc,_,?_,f⟩;cases a;cases b;simp[Jp,oM,Nl,Qe,Ev.enc];rw[Bool.eq_iff_iff];simp
theorem qn {s:aK} {k:Value->Prop} (b:k (.bool false)) {a:Bool} (hc:a=true:=by kernel_rfl):Nb a [0,0,0,0,0,0,1] .neq (.agg ⟨s.core⟩) (.agg ⟨s.core⟩) k:=⟨hc,_,by simp[Jp,oM,Nl,Qe,aK.core],b⟩
set_option maxRecDepth 100000
attribute [local irreducible] bG Br pK sD tZ Cq mN wW lR Rs gX mT rA rG pJ kU zA vE V9 V4 Ro Ps Vv Qm Jp Nb Vm lB oL tX jK copyV iQ xK V7 V8 Hn lG Nc Sp V2 oA rY yU Ao Cl yO Vx tE sC kJ hT setLoop cT
variable {G:Bg} {h:AH} {L L':List HP} {Q:Value->AH->Prop} {Cf:bP} {m N:Nat} {M:dB}
def Rx (G:Bg) (v:Value) (l:List Do):Prop:=uA G 4 v (l.map Do.enc).length (fun i=>(l.map Do.enc).getD i [])
theorem Zr {v:Value} {l:List Do} (a:Rx G v l) (b:Hs G h L):Hs G h (Ae G 4 23 v (l.map Do.enc)::L):=Cs (by simp[Do.enc]) a b
theorem fj {v:Value} {l:List Do} {k:Value->Prop} (b:Rx G v l) (a:k (I l.length)):bG (kU v) k:=A.qN b (by rw[List.length_map];exact a)
theorem oy {d:Do} {a:Addr} {c:Nat} {k:Value->AH->Prop} (hC:Cf.Ok) (hG:Gb G) (f:eI Cf N M) (i:N<=2^28) (b:Hs G h (cN 4 23 (some a) c (1,d.enc)::bX G Cf m M::L))
  (g:∀e,Hs G e (bX G Cf m (M.C9 Cf d).1::L)->k (.tuple ⟨[I (M.wI Cf [d] 0).2.1,I (M.wI Cf [d] 0).2.2]⟩) e):Cl Pr K 15 [pt m 0 0,.slice (some a) 1 c] h k:=by
 have b:=sn (l:=[d].map Do.enc) (n:=1) (cs:=d.enc) (by simp[Do.enc]) rfl (by simp) b
 refine aDf (l:=[d]) (v:= .slice (some a) 1 c) hC hG f (by simp;omega) b fun h b=>g h ?_
 rw[wm] at b
 exact b.tail
end
end Go.Proofs.YtajjljbmfdboaaaGreatDoor
namespace Go.Ab
open Go Go.RowKit Go.ChangeShapes Go.WideShapes Go.ChangeAt
section
variable {P:Program} {H:Type} {enc:TypeId×Value->H} {w:World} {base:Nat} {spare:Nat->Bool} {held:Bool}
theorem yn {ρ:iH} {v:Value}:aF ρ top v:=by simp[top,aF]
theorem da {ρ:iH}:∀{l l':List Value},l.length=l'.length->(∀(j:Nat) (u v:Value),l[j]?=some u->l'[j]?=some v->aF ρ u v)->aZ ρ l l'
 |[],[],_,_=>aZ.nil
 |u::l,v::l',h,k=>aZ.cons (k 0 u v rfl rfl) (da (by simpa using h) fun j a b e f=>k (j+1) a b (by simpa using e) (by simpa using f))
 |[],_::_,h,_=>by simp at h
 |_::_,[],h,_=>by simp at h
def aC7 (P:Program) (w:World) (ρ:iH) (r:OB):Prop:=
 (∀o,r.1=some o->∀b s,r.2=some (b,s)->∃a,w.heap[b]?=some a/\uF P ρ s o a)/\(∀b s,r.2=some (b,s)->b<w.heap.size)
theorem Yf.at' {r:OB} (h:Yf P w r) (ρ:iH):aC7 P w ρ r:=⟨fun o g b s f=>let⟨i,a,e⟩:=h.1 o g b s f;⟨i,a,e ρ⟩,h.2⟩
theorem lj {g:Nat} {gl:Nat->Option nI} {rs:List OB} (x:P.globals.size<=g) (u:g<=w.heap.size) (f:yf P g gl w) (k:∀r∈rs,aC7 P w (rX g rs) r):Reads P (g+rs.length) (yT g gl rs) (rX g rs) w where
 rI:=fun i o j e b s a=>by
  have t:=a;unfold yT at e;unfold rX at a;split at e;rename_i h;rw[aJ7 h] at a;cases a;obtain⟨v,p,q⟩:=f i o h e;exact⟨v,p,q _⟩;rename_i h;rw[aJ6 h] at a;rw[List.getElem?_eq_getElem (by omega)] at e a;exact(k _ (List.getElem_mem (by omega))).1 o e b s a
 low:=fun i b s j a=>by
  unfold rX at a;split at a;cases a;omega;rw[List.getElem?_eq_getElem (by omega)] at a;exact(k _ (List.getElem_mem (by omega))).2 b s a
 none:=fun i j=>by unfold rX;rw[aaa,List.getElem?_eq_none (by omega)];rfl
 pW:=fun i j=>by unfold rX;rw[aac]
def E2 (k:List (Option IntKind)) (w:World) (a:Option Addr) (len cap:Nat):Prop:=
 (a=none/\len=0/\cap=0)\/(∃x,a=some x/\len=0)\/
 ∃x cc e j,a=some x/\0<len/\x.spot=none/\len<=cap/\w.heap[x.block]?=some (.cells cc e j)/\x.off+len<=cc.size/\
  ∀i,i<len->∃b g f,cc.toList[x.off+i]?=some (.slice b g f)/\jN k w b g f
theorem mf {t e e2:TypeId} {n fuel:Nat} {u:List (Option IntKind)} {cs:List Value} {x:DataW H×List MemPlace} (ht:P.underlying t=some (.slice e)) (U:P.underlying e=some (.slice e2)) (W:pL P n e2=some u) (D:P.cellsOf e2=u.length) (hc:P.cellsOf e=1) (S:0<u.length)
  (h:DataW.trod enc P w base spare held fuel t cs=some x):∃a len k,cs=[.slice a len k]/\len<=maxLen/\E2 u w a len k:=by
 rcases DataW.trod_slice ht h with⟨rfl,_⟩|⟨a,len,k,elems,rest,m,_,rfl,_,z,X,hm,K,F,_,_⟩
 .exact⟨none,0,0,rfl,Nat.zero_le _,.inl ⟨rfl,rfl,rfl⟩⟩
 refine⟨some a,len,k,rfl,by omega,?_⟩
 rcases Nat.eq_zero_or_pos len with B|B
 .exact .inr (.inl ⟨a,rfl,B⟩)
 refine .inr (.inr ?_)
 have each:∀i,i<len->∃f j g,w.cell? (a.add i)=some (.slice f j g)/\jN u w f j g:=by
  intro i I;have q:=F i I;rw[List.getElem?_eq_getElem (by omega),hc,Option.bind_eq_some_iff] at q;obtain⟨c,p,hy⟩:=q;obtain⟨f,j,g,E,Y⟩:=Hb U W D S hy;subst E;refine⟨f,j,g,?_,Y⟩;unfold World.cells? at p;split at p;have:=mapM_some_get p 0 0 (by simp);rw[Nat.mul_one] at this;have R:(a.add i).add 0=a.add i:=rfl;rw[R] at this;simpa using this;cases p
 obtain⟨a0,l0,c0,b,Z⟩:=each 0 B
 obtain⟨cc,O,v,z,A⟩:∃cc e v,w.heap[a.block]?=some (.cells cc e v)/\a.spot=none:=by
  have J:a.add 0=a:=rfl;rw[J] at b;unfold World.cell? at b;split at b;rename_i c e v z;split at b;cases b;rename_i A;exact⟨c,e,v,z,by simpa using A⟩;cases b
 have s:∀o,w.cell? ⟨a.block,o,none⟩=cc[o]?:=by
  intro o;unfold World.cell?;rw[z];simp
 have y:∀i,i<len->∃f j g,cc.toList[a.off+i]?=some (.slice f j g)/\jN u w f j g:=by
  intro i I;obtain⟨f,j,g,q,T⟩:=each i I;rw[Yv A,s] at q;exact⟨f,j,g,by rw[Array.getElem?_toList];exact q,T⟩
 refine⟨a,cc,O,v,rfl,B,A,X,z,?_,y⟩
 obtain⟨f,j,g,q,_⟩:=y (len - 1) (by omega)
 have:=(List.getElem?_eq_some_iff.1 q).1
 simp at this
 omega
theorem Lc {W:World} {t:TypeId} {fs:Array Field} {i:Nat} {f:Field} {l:List Value} {d:DataW H} {p:List MemPlace} {n:Nat} {k:List (Option IntKind)} (q:P.underlying t=some (.struct fs)) (g:fs[i]?=some f) (o:pL P n f.type=some k)
  (h:DataW.Trod enc P W 0 (fun _=>true) true t (.agg ⟨l⟩) d p):Flat k ((l.drop f.offset).take (P.cellsOf f.type)):=by
 obtain⟨fuel,b⟩:=h
 obtain⟨u,m,_,_,v,s,a⟩:=DataW.trod_struct q b
 have j:=a i f g
 have e:i<u.length:=by rw[s];exact(Array.getElem?_eq_some_iff.1 g).1
 rw[List.getElem?_eq_getElem e] at j
 have:=Gp n o j
 simpa [Value.cells] using this
theorem Ja {W:World} {t e e2:TypeId} {fs:Array Field} {i:Nat} {f:Field} {l:List Value} {d:DataW H} {p:List MemPlace} {n:Nat} {k:List (Option IntKind)} (F:P.underlying t=some (.struct fs)) (u:fs[i]?=some f)
  (I:P.underlying f.type=some (.slice e)) (s:P.underlying e=some (.slice e2)) (y:P.cellsOf f.type=1) (A:P.cellsOf e=1) (B:pL P n e2=some k) (hc:P.cellsOf e2=k.length) (x:0<k.length)
  (h:DataW.Trod enc P W 0 (fun _=>true) true t (.agg ⟨l⟩) d p):∃a len b,l[f.offset]?=some (.slice a len b)/\len<=maxLen/\E2 k W a len b:=by
 obtain⟨fuel,o⟩:=h
 obtain⟨K,m,_,_,R,J,g⟩:=DataW.trod_struct F o
 have v:=g i f u
 have q:i<K.length:=by rw[J];exact(Array.getElem?_eq_some_iff.1 u).1
 rw[List.getElem?_eq_getElem q] at v
 obtain⟨a,len,b,j,D,E⟩:=mf I s B hc A x v
 refine⟨a,len,b,?_,D,E⟩
 rw[y] at j
 have O:(Value.cells (.agg ⟨l⟩)).toList=l:=by simp[Value.cells]
 have:=congrArg (fun z=>z[0]?) j
 simpa [Value.cells] using this
structure aGq (P:Program) (w:World) (ks:List (Option IntKind)) (k0:Nat) (a:Option Addr) (len cap:Nat) (r:OB) (rs:List OB) (t:Nat->Value) (vs:List Value) (ns:List Nat) (at':Nat->Nat->List Value):Prop where
 ok:∀x∈rs,Yf P w x
 out:∀ρ:iH,(∀i x,rs[i]?=some x->ρ (k0+i)=x.2)->aC7 P w ρ r
 rel:∀ρ k,ρ k=r.2->aF ρ (t k) (.slice a len cap)
 lvs:vs.length=len
 kM:ns.length=len
 flat:∀i n,ns[i]?=some n->∀j,j<n->Flat ks (at' i j)
 old:∀(G:Bg) k,k<G.base->G.old k=r.1->(∀i x,rs[i]?=some x->k0+i<G.base/\G.old (k0+i)=x.1)->
  uA G 1 (t k) len (fun i=>[vs.getD i undef])/\um G (t k) len/\∀i v n,vs[i]?=some v->ns[i]?=some n->uA G ks.length v n (at' i)/\um G v n
theorem xn (P:Program) {E:List (Option IntKind)} {a:Option Addr} {len cap:Nat} (q:Nat) (h:E2 E w a len cap):∃r rs t vs ns at',aGq P w E q a len cap r rs t vs ns at':=by
 rcases h with⟨rfl,rfl,rfl⟩|⟨x,rfl,rfl⟩|⟨x,cc,e,S,rfl,h0,hs,hl,hb,β,hf⟩;exact⟨(none,none),[],fun _=> .slice none 0 0,[],[],fun _ _=>[],⟨fun x Z=>(by cases Z),fun ρ _=>⟨fun o h=>(by cases h),fun b s h=>(by cases h)⟩,fun ρ k _=>(by simp only[aF]),rfl,rfl,fun i n B=>(by simp at B),fun G k _ _ _=>⟨⟨none,0,rfl,fun i f=>(by omega)⟩,.inl ⟨rfl,rfl⟩,fun i v n p=>(by simp at p)⟩⟩⟩;refine⟨(none,none),[],fun _=> .slice (some ⟨0,0,some 0⟩) 0 0,[],[],fun _ _=>[],⟨fun x Z=>(by cases Z),fun ρ _=>⟨fun o h=>(by cases h),fun b s h=>(by cases h)⟩,fun ρ k _=>?_,rfl,rfl,fun i n B=>(by simp at B),fun G k _ _ _=>⟨⟨some ⟨0,0,some 0⟩,0,rfl,fun i f=>(by omega)⟩,.inr (.inl ⟨rfl,rfl⟩),fun i v n p=>(by simp at p)⟩⟩⟩;simp only[aF];exact⟨trivial,trivial,x,cap,fun h=>by omega,fun h=>by omega,rfl⟩;have I:∀i,∃(y:OB×(Nat->Value)×(Nat->List Value)×Nat×Value),i<len->cc.toList[x.off+i]?=some y.2.2.2.2/\Yf P w y.1/\(∀ρ k,ρ k=y.1.2->aF ρ (y.2.1 k) y.2.2.2.2)/\(∀j,j<y.2.2.2.1->Flat E (y.2.2.1 j))/\
   ∀(G:Bg) k,k<G.base->G.old k=y.1.1->uA G E.length (y.2.1 k) y.2.2.2.1 y.2.2.1/\um G (y.2.1 k) y.2.2.2.1:=by
  intro i
  by_cases f:i<len
  .obtain⟨a',l',c',A,T⟩:=hf i f;obtain⟨r,t,U,h4,at',h5,h6⟩:=vY P T;exact⟨(r,t,at',l',.slice a' l' c'),fun _=>⟨A,U,h4,h5,h6⟩⟩
  .exact⟨((none,none),fun _=>undef,fun _=>[],0,undef),fun h=>absurd h f⟩
 obtain⟨Y,K⟩:∃Y:Nat->OB×(Nat->Value)×(Nat->List Value)×Nat×Value,∀i,i<len->cc.toList[x.off+i]?=some (Y i).2.2.2.2/\Yf P w (Y i).1/\(∀ρ k,ρ k=(Y i).1.2->aF ρ ((Y i).2.1 k) (Y i).2.2.2.2)/\(∀j,j<(Y i).2.2.2.1->Flat E ((Y i).2.2.1 j))/\
   ∀(G:Bg) k,k<G.base->G.old k=(Y i).1.1->uA G E.length ((Y i).2.1 k) (Y i).2.2.2.1 (Y i).2.2.1/\um G ((Y i).2.1 k) (Y i).2.2.2.1:=
  ⟨fun i=>(I i).choose,fun i f=>(I i).choose_spec f⟩
 have D:∀{α:Type} (g:Nat->α) (i:Nat) (z:α),((List.range len).map g)[i]?=some z->i<len/\z=g i:=by
  intro α g i z R;have f:i<len:=by have:=(List.getElem?_eq_some_iff.1 R).1;simpa using this
  rw[List.getElem?_map,List.getElem?_range f] at R;simp only[Option.map_some,Option.some.injEq] at R;exact⟨f,R.symm⟩
 refine⟨(some (.cells ((List.range cc.size).map fun j=>if x.off<=j/\j<x.off+len then(Y (j - x.off)).2.1 (q+(j - x.off)) else top) e S false),some (x.block,(0,0))),(List.range len).map fun i=>(Y i).1,fun k=> .slice (some ⟨k,x.off,none⟩) len cap,
     (List.range len).map fun i=>(Y i).2.1 (q+i),(List.range len).map fun i=>(Y i).2.2.2.1,fun i=>(Y i).2.2.1,⟨?_,?_,?_,by simp,by simp,?_,?_⟩⟩
 intro y hy;obtain⟨i,f,rfl⟩:=List.mem_map.1 hy;exact(K i (List.mem_range.1 f)).2.1;intro ρ hρ;refine⟨fun o ho b s J=>?_,fun b s J=>?_⟩;cases ho;cases J;refine⟨_,hb,cc,rfl,?_,by simp,fun h=>by cases h⟩;rw[List.drop_zero,List.take_of_length_le (by simp)];refine da (by simp) fun j u v O p=>?_;rw[List.getElem?_map] at O;have W:j<cc.size:=by have:=(List.getElem?_eq_some_iff.1 p).1;simpa using this
 rw[List.getElem?_range W] at O;simp only[Option.map_some,Option.some.injEq] at O;subst O;split;rename_i hc;obtain⟨A,_,U,_,_⟩:=K (j - x.off) (by omega);rw[show x.off+(j - x.off)=j by omega,p] at A;simp only[Option.some.injEq] at A;rw[A];refine U ρ _ (hρ (j - x.off) _ ?_);rw[List.getElem?_map,List.getElem?_range (by omega)];rfl;exact yn;cases J;exact(Array.getElem?_eq_some_iff.1 hb).1;intro ρ k J;simp only[aF];exact⟨x.block,(0,0),cap,J,Nat.le_refl _,by simp,by cases x;simp at hs;subst hs;rfl⟩;intro i n B j W;obtain⟨f,rfl⟩:=D _ i n B;exact(K i f).2.2.2.1 j W;intro G k hk hg F;refine⟨⟨_,_,rfl,fun i f=>⟨k,x.off,_,rfl,⟨hk,e,S,false,hg⟩,?_,by simp;omega⟩⟩,.inr (.inr ⟨k,x.off,cap,_,e,S,rfl,h0,hl,hk,hg⟩),fun i v n p B=>?_⟩;have α:x.off+i*1<cc.size:=by omega
 have X:x.off+i*1<((List.range cc.size).map fun j=>if x.off<=j/\j<x.off+len then(Y (j - x.off)).2.1 (q+(j - x.off)) else top).length:=by simp;omega
 rw[List.drop_eq_getElem_cons X,List.take_succ_cons,List.take_zero];have e1:((List.range len).map fun i=>(Y i).2.1 (q+i)).getD i undef=(Y i).2.1 (q+i):=by
  rw[List.getD_eq_getElem?_getD,List.getElem?_map,List.getElem?_range f];rfl
 show[_]=[((List.range len).map fun i=>(Y i).2.1 (q+i)).getD i undef];rw[e1];simp only[List.getElem_map,List.getElem_range];rw[aac,show x.off+i*1 - x.off=i by omega];obtain⟨f,rfl⟩:=D _ i v p;obtain⟨_,rfl⟩:=D _ i n B;obtain⟨A,T⟩:=F i (Y i).1 (by rw[List.getElem?_map,List.getElem?_range f];rfl);exact(K i f).2.2.2.2 G (q+i) A T
end
end Go.Ab
section
open Go Go.Ab
attribute [local irreducible] bG Br pK sD tZ Cq mN wW lR Rs gX mT rA rG pJ kU zA vE V9 V4 Ro Ps Vv Qm Jp Nb Vm lB oL tX jK copyV iQ xK V7 V8 Hn lG Nc Sp V2 oA rY yU Ao Cl yO Vx tE sC kJ hT setLoop cT
namespace Go.Proofs.YtajjljbmfdboaaaGreatDoor.A
open Go Go.Ab Go.Hm Go.At Go.Is
section
set_option maxRecDepth 100000
variable {G:Bg} {h:AH} {L L':List HP} {Q:Value->AH->Prop}
theorem Il {C:bP} {ps:List (List Ins)} {ws os vs:List Int} (h:oI C ps ws os vs=0):(rM C ps ws os vs).Ok:=by
 unfold oI at h;split at h;cases h;rename_i hC;split at h;cases h;rename_i o;split at h;rename_i e;exact absurd h e;rename_i e;refine⟨show C.Ok by simpa using hC,fun i f=>?_,?_⟩;have b:i<ps.length:=by have:(i:Int)<C.aE:=f;omega
 have j:ps.getD i []∈ps:=by rw[List.getD_eq_getElem?_getD,List.getElem?_eq_getElem b];exact List.getElem_mem _
 have a:=Af (by simpa using e) _ j;have g:=Gz a;refine⟨show(0:Int)<=0 by decide,show(0:Int)<=32 by decide,rfl,g,fun x k=>?_⟩;unfold kL at a;rw[aaa] at a;exact Qw _ _ a x k;show(os.length:Int)=C.aN;omega
theorem aAr {m:AM} (p:m.Ok) {pm i:Nat} (z:(i:Int)<m.cfg.aE) (e:Hs G h L) [x:Has (nU G pm) L m L']
  (v:∀k,Hs G k (nU G pm m::L')->Q (.tuple ⟨[.agg ⟨(m.aC i).core⟩,I 0]⟩) k):Cl Pr K 33 [pt pm 0 0,I i] h Q:=by
 have u:m.cfg.aE<=4/\1<=m.cfg.aE:=⟨p.cfg.1.2,p.cfg.1.1⟩
 have f:i<m.cfg.aE.toNat:=by omega
 obtain⟨b,o,g,a,c,q,e⟩:=zV (x.of e)
 refine cW (bQ e fun p1 h e=>dD (cG (bW ?_)))
 refine aB (aA (am pm e rfl (bU (rL (by omega) (aQ (c:=[I i]) rfl (dL e rfl rfl rfl fun y h e=>lU e fun h e=>cH (eB (aae ?_))))))))
 refine aB (aA (am pm e rfl ?_))
 have e:=(e.front (dF m.cfg.aE.toNat fun i=>fU b (o+i*8) (m.aC i))).jX i f
 obtain⟨s,t,e⟩:=Om e
 refine dM f (aA (aR (b:=b) (o:=o+i*8) e (by decide) (l:=(m.aC i).core) rfl rfl (ax (b:=p1) (o:=0) e fun h e=>an p1 e (l:=(m.aC i).core) rfl rfl (v _ ?_))))
 have e:=tU (e.cI (aG b (o+i*8) ((m.aC i).core++[.slice s (m.aC i).prog.length t])) (cN 4 86 s t ((m.aC i).prog.length,oR (m.aC i).prog)))
 have e:=e.lA (n:=m.cfg.aE.toNat) (i:=i) (fun j=>fU b (o+j*8) (m.aC j)) (fun j=>fU b (o+j*8) (m.aC j)) f (fun _ _ _=>rfl)
 exact mJ (b:=b) (o:=o) (cap:=g) (a:=a) (c:=c) (mb:=q) e.to
theorem Fa {m:AM} (k:m.Ok) {pm i:Nat} (x:(i:Int)<m.cfg.aN) (f:Hs G h L) [u:Has (nU G pm) L m L']
  (s:∀j,Hs G j (nU G pm m::L')->Q (.tuple ⟨[I (m.bL.getD i 0),I 0]⟩) j):Cl Pr K 108 [pt pm 0 0,I i] h Q:=by
 have q:m.cfg.aN<=16:=k.cfg.2.1.2
 have t:=k.bL
 obtain⟨b,o,g,a,c,p,f⟩:=zV (u.of f)
 refine cW (dD (cG (bW ?_)))
 refine aB (aA (am pm f rfl (bU (rL (by omega) (aQ (c:=[I i]) rfl (dL f rfl rfl rfl fun v h f=>lU f fun h f=>cH (eB (aae ?_))))))))
 refine aB (aA (am pm f rfl (Gd (e:=3) (cs:=m.bL.map I) f (Xe (by omega)) (s _ ?_))))
 exact mJ (b:=b) (o:=o) (cap:=g) (a:=a) (c:=c) (mb:=p) f
theorem zE {m:AM} (s:m.Ok) {pm i:Nat} (k:i<m.cfg.lines*2) (q:Ob G 0 eT) (e:Hs G h L) [t:Has (nU G pm) L m L']
  (p:∀g,Hs G g (nU G pm m::L')->Q (.tuple ⟨[I (rU m.mem i),I 0]⟩) g):Cl Pr K 109 [pt pm 0 0,I i] h Q:=by
 obtain⟨b,o,f,a,c,j,e⟩:=zV (t.of e)
 refine cW (dD (cG (aB (aA (am pm e rfl ?_)))))
 refine Pf s.cfg q e k fun h e=>aH rfl (aH rfl (p _ ?_))
 exact mJ (b:=b) (o:=o) (cap:=f) (a:=a) (c:=c) (mb:=j) e.to
end
end Go.Proofs.YtajjljbmfdboaaaGreatDoor.A
end
namespace Go.Proofs.YtajjljbmfdboaaaGreatDoor.A
open Go Go.Ab Go.Hm Go.At Go.Is
section
theorem vf {a n:Ev} {k:Value->Prop} (e:k (.bool (decide (a≠n)))) {b:Bool} (hc:b=true:=by kernel_rfl):Nb b [0,0,0,0,0,0,0] .neq (.agg ⟨a.enc⟩) (.agg ⟨n.enc⟩) k:=by
 refine⟨hc,_,?_,e⟩;cases a;cases n;simp[Jp,oM,Nl,Qe,Ev.enc];rw[Bool.eq_iff_iff];simp
theorem uv {f:FuncId} {b o j:Nat}:nG (.func (.func f) #[pt b o j] #[]) (.func (.func f) #[pt b o j] #[])=true:=by simp[nG,Tv,H6,pt]
set_option maxRecDepth 100000
attribute [local irreducible] bG Br pK sD tZ Cq mN wW lR Rs gX mT rA rG pJ kU zA vE V9 V4 Ro Ps Vv Qm Jp Nb Vm lB oL tX jK copyV iQ xK V7 V8 Hn lG Nc Sp V2 oA rY yU Ao Cl yO Vx tE sC kJ hT setLoop cT
variable {G:Bg} {h:AH} {L L':List HP} {Q:Value->AH->Prop}
structure RdE (G:Bg) (A:HP) (lv:Value) (l:List Ev):Prop where
 rd:∀{h:AH} {L L':List HP} {k:Value->Prop} {i:Nat} {x:Ev},Hs G h L->[dY A L L']->l[i]?=some x->k (.agg ⟨x.enc⟩)->bG (lB 7 lv (I i)) fun p=>bG (sD h 7 p) k
 len:∀{k:Value->Prop},k (I l.length)->bG (kU lv) k
theorem W8 {A:HP} {lv:Value} {l:List Ev} (D:RdE G A lv l) (B:Ob G 0 eT) (K:l.length<=10000):
  ∀(f i:Nat) (m:AM) (pm n:Nat) (h:AH),i+f=l.length->n<=i->m.Ok->Hs G h (nU G pm m::A::L)->
  (∀p u,Hs G u (nU G p (dA m (l.drop i) n).1::A::L)->Q (.tuple ⟨[pt p 0 0,I (dA m (l.drop i) n).2.1,I (dA m (l.drop i) n).2.2]⟩) u)->
  Dd 105 1 [] Q [(pt pm 0 0),(I n),(I 0),lv,(I l.length),(I i)] h:=by
 intro f
 induction f with
 |zero=>
  intro i m pm n h z t q a j
  rw[List.drop_of_length_le (by omega),dA] at j
  exact bW (bA (aab (j pm _ a)))
 |succ f F=>
  intro i m pm n h z t q a j
  obtain⟨x,E,y⟩:=nA (l:=l) (i:=i) (by omega)
  rw[y,dA] at j
  refine bW (bA (aae (bW (D.rd a (i:=i) E (bQ a fun s h a=>ax (b:=s) (o:=0) a fun h a=>?_)))))
  refine Yj q a fun J h a=>aA (am s a rfl (aA (am s a rfl (bH ?_))))
  refine yp q B a fun h a=>aH rfl (aH rfl (bQ a fun k h a=>ax (b:=k) (o:=0) a fun h a=>?_))
  have v:decide (x.code=17)=dJ x:=rfl
  rw[v] at a ⊢
  refine bH (aX (fun c=>?_) (fun c=>?_))
  .refine bW ?_;have e:oC m x=20:=by unfold oC;rw[aJ7 c]
   rw[aac,e] at j
   exact j pm _ a.to
  refine bW (bC (aX (fun d=>?_) (fun d=>?_)))
  .have e:oC m x=16:=by unfold oC;rw[aJ6 c,aJ7 (.inl d)]
   rw[aac,e] at j
   exact j pm _ a.to
  refine an k a (l:=(m.step x.core (dJ x)).2.1.enc) rfl rfl (an s a (l:=x.enc) rfl rfl (vf (aX (fun g=>?_) (fun g=>?_))))
  .refine bW ?_;have e:oC m x=16:=by unfold oC;rw[aJ6 c,aJ7 (.inr g)]
   rw[aac,e] at j
   exact j pm _ a.to
  .have e:oC m x=0:=by
    unfold oC;rw[aJ6 c,aJ6];rintro (h|h);exact d h;exact g h
   rw[aaa] at j
   refine bW (aad (aad ?_))
   exact F (i+1) _ J (n+1) h (by omega) (by omega) (cn q _ _) a.to j
theorem Vg {A:HP} {lv:Value} {l:List Ev} {m:AM} {pm:Nat} (g:m.Ok) (b:RdE G A lv l) (f:Ob G 0 eT) (i:l.length<=10000) (j:Hs G h (nU G pm m::A::L))
  (e:∀p a,Hs G a (nU G p (dA m l 0).1::A::L)->Q (.tuple ⟨[pt p 0 0,I (dA m l 0).2.1,I (dA m l 0).2.2]⟩) a):Cl Pr K 105 [pt pm 0 0,lv] h Q:=
 cW (b.len (W8 b f i l.length 0 m pm 0 h (by omega) (by omega) g j e))
theorem Mw:∀(l:List Ev) (m:AM) (n:Nat),m.Ok->(dA m l n).1.Ok/\(dA m l n).1.cfg=m.cfg
 |[],m,n,a=>⟨a,rfl⟩
 |x::l,m,n,a=>by
  rw[dA];split;exact⟨a,rfl⟩;have:=Mw l (m.step x.core (dJ x)).1 (n+1) (cn a _ _);exact⟨this.1,this.2.trans Jl⟩
theorem H4 {A:HP} {j:Value} {F:Nat->Int} {n:Nat} (u:n<=1000) (p:∀i,i<n->∀(h:AH) (L:List HP) (Q:Value->AH->Prop),Hs G h (A::L)->(∀g,Hs G g (A::L)->Q (.tuple ⟨[I (F i),I 0]⟩) g)->yO Pr K j [I i] h Q)
  (b:Hs G h (A::L)) (s:∀a c g,Hs G g (cN 1 3 a c (n,(List.range n).map fun i=>I (F i))::A::L)->Q (.slice a n c) g):Cl Pr K 107 [I n,j] h Q:=by
 have loop:∀(f i:Nat) (a:Option Addr) (c:Nat) (h:AH),i+f=n->Hs G h (cN 1 3 a c (i,(List.range i).map fun i=>I (F i))::A::L)->Dd 107 1 [] Q [j,(.slice a i c),(I n),(I i)] h:=by
  intro f;induction f with
  |zero=>
   intro i a c h q b;obtain rfl:i=n:=by omega
   exact bW (bA (aab (s _ _ _ b)))
  |succ f t=>
   intro i a c h q b;refine bW (bA (aae (bW (p i (by omega) h _ _ b.lK fun h b=>aH rfl (aH rfl (bC (aab (bW ?_))))))));refine aQ (c:=[I (F i)]) rfl (dL b rfl rfl rfl fun a3 h b=>?_);refine nY (a:=a) (c:=c) (n:=i) (a2:=some a3) (c2:=1) (m:=1) b (by omega) fun k o h b=>?_;dsimp only;refine aad (t (i+1) k o h (by omega) ?_);have e:(List.range i).map (fun i=>I (F i))++[I (F i)]=(List.range (i+1)).map fun i=>I (F i):=by rw[List.range_succ,List.map_append];rfl
   rw[e] at b;exact b.to
 exact cW (loop n 0 none 0 h (by omega) (gK b))
theorem T6 {A:HP} {k:Value} {F:Nat->aK} {n:Nat} (y:n<=1000) (t:∀i,i<n->∀(h:AH) (L:List HP) (Q:Value->AH->Prop),Hs G h (A::L)->(∀j,Hs G j (A::L)->Q (.tuple ⟨[.agg ⟨(F i).core⟩,I 0]⟩) j)->yO Pr K k [I i] h Q)
  (g:Hs G h (A::L)) (v:∀a c j,Hs G j (cN 7 30 a c (n,(List.range n).flatMap fun i=>(F i).core)::A::L)->Q (.slice a n c) j):Cl Pr K 103 [I n,k] h Q:=by
 have loop:∀(f i:Nat) (a:Option Addr) (c:Nat) (h:AH),i+f=n->Hs G h (cN 7 30 a c (i,(List.range i).flatMap fun i=>(F i).core)::A::L)->Dd 103 1 [] Q [k,(.slice a i c),(I n),(I i)] h:=by
  intro f;induction f with
  |zero=>
   intro i a c h u g;obtain rfl:i=n:=by omega
   exact bW (bA (aab (v _ _ _ g)))
  |succ f x=>
   intro i a c h u g;refine bW (bA (aae (bW (t i (by omega) h _ _ g.lK fun h g=>aH rfl (aH rfl (bQ g fun p h g=>ax (b:=p) (o:=0) g fun h g=>bC (aab (bW ?_))))))));refine an p g (l:=(F i).core) rfl rfl (aQ (c:=(F i).core) rfl (dL g rfl rfl rfl fun a3 h g=>?_));refine nY (a:=a) (c:=c) (n:=i) (a2:=some a3) (c2:=1) (m:=1) g (by omega) fun q s h g=>?_;dsimp only;refine aad (x (i+1) q s h (by omega) ?_);have e:(List.range i).flatMap (fun i=>(F i).core)++(F i).core=(List.range (i+1)).flatMap fun i=>(F i).core:=by rw[List.range_succ,List.flatMap_append];simp
   rw[e] at g;exact g.to
 exact cW (loop n 0 none 0 h (by omega) (gK g))
end
end Go.Proofs.YtajjljbmfdboaaaGreatDoor.A
section
open Go Go.Ab
attribute [local irreducible] bG Br pK sD tZ Cq mN wW lR Rs gX mT rA rG pJ kU zA vE V9 V4 Ro Ps Vv Qm Jp Nb Vm lB oL tX jK copyV iQ xK V7 V8 Hn lG Nc Sp V2 oA rY yU Ao Cl yO Vx tE sC kJ hT setLoop cT
namespace Go.Proofs.YtajjljbmfdboaaaGreatDoor.A
open Go Go.Ab Go.Hm Go.At Go.Is
section
set_option maxRecDepth 100000
variable {G:Bg} {h:AH} {L L':List HP} {Q:Value->AH->Prop}
abbrev qd (C:bP) (pv a ov vv:Value):List Value:=C.enc++[pv,a,ov,vv]
theorem Fj {C:bP} {pv g ov vv:Value} {ps:List (List Ins)} {ws os vs:List Int} (k:ps.length<=1000/\ws.length<1000/\os.length<1000) (j:Ob G 0 eT) (i:Ob G 1 sI) (q:Nv G pv g ov vv ps ws os vs) (a:Hs G h L)
  (s:oI C ps ws os vs≠0->∀f,Hs G f L->Q (.tuple ⟨[.pointer none,I (oI C ps ws os vs)]⟩) f)
  (t:oI C ps ws os vs=0->∀p f,Hs G f (nU G p (rM C ps ws os vs)::L)->Q (.tuple ⟨[pt p 0 0,I 0]⟩) f):Cl Pr K 104 [.agg ⟨qd C pv g ov vv⟩] h Q:=by
 refine cW (dR a fun p h a=>aA (aR a (by decide) (l:=C.enc) rfl rfl (aA (am p a rfl (aA (am p a rfl (aA (am p a rfl (aA (am p a rfl ?_))))))))))
 refine rz k j i q a (fun e h a=>aH rfl (aH rfl (s e _ a.tail))) (fun e u h a=>aH rfl (aH rfl (t e u _ a.to)))
abbrev Z2 (m:AM):List Value:=(List.range m.cfg.aE.toNat).flatMap fun i=>(m.aC i).core
abbrev yh (m:AM):List Value:=(List.range m.cfg.aN.toNat).map fun i=>I (m.bL.getD i 0)
abbrev bc (m:AM):List Value:=(List.range (m.cfg.lines*2)).map fun i=>I (rU m.mem i)
def aBq (G:Bg) (m:AM) (L:List HP) (Q:Value->Value->Value->AH->Prop):Prop:=∀a1 b a c2 a3 c3 e,Hs G e (cN 7 30 a1 b (m.cfg.aE.toNat,Z2 m)::cN 1 3 a c2 (m.cfg.aN.toNat,yh m)::cN 1 3 a3 c3 (m.cfg.lines*2,bc m)::L)->
 Q (.slice a1 m.cfg.aE.toNat b) (.slice a m.cfg.aN.toNat c2) (.slice a3 (m.cfg.lines*2) c3) e
theorem x6 {C:bP} {pv wv ov vv:Value} {vs:List Int} {m:AM} {p2 e pm n:Nat} (p:m.Ok) (hc:m.cfg=C) (hl:Ob G 0 eT) (J:F1 G vv vs) (R:vs.length=C.lines*2)
  (g:Hs G h (nU G pm m::aG p2 0 (qd C pv wv ov vv)::aG e 0 [pt pm 0 0]::L)) (s:aBq G m L fun x y z T=>Q (.agg ⟨[I n,x,y,z]⟩) T):Cl Pr K 106 [I n,pt p2 0 0,pt e 0 0] h Q:=by
 subst hc
 have α:=bP.fN p.cfg
 have Y:m.cfg.aE<=4/\1<=m.cfg.aE:=⟨p.cfg.1.2,p.cfg.1.1⟩
 have Z:m.cfg.aN<=16/\1<=m.cfg.aN:=⟨p.cfg.2.1.2,p.cfg.2.1.1⟩
 have hC:((m.cfg.aE.toNat:Nat):Int)=m.cfg.aE:=by omega
 have t:((m.cfg.aN.toNat:Nat):Int)=m.cfg.aN:=by omega
 refine cW (bQ g fun p1 h g=>aY g fun rv h2 f=>?_)
 refine aA (aA (am p2 f (v:=I m.cfg.aE) rfl (am e f rfl ?_)))
 rw[<-hC]
 refine T6 (A:=nU G pm m) (F:=m.aC) (by omega) (fun i O h L Q g s=>mZ rfl (aAr p (by omega) g s)) (f.front (nU G pm m)) fun a1 E h8 k=>?_
 refine aA (aA (am p2 k (v:=I m.cfg.aN) rfl (am e k rfl ?_)))
 rw[<-t]
 refine H4 (A:=nU G pm m) (F:=fun i=>m.bL.getD i 0) (by omega) (fun i O h L Q g s=>mZ rfl (Fa p (by omega) g s)) (k.front (nU G pm m)) fun D c2 U j=>?_
 refine aA (am p2 j (v:=vv) rfl (qN J ?_))
 rw[oK,R]
 refine am e j rfl ?_
 refine H4 (A:=nU G pm m) (F:=fun i=>rU m.mem i) (by omega) (fun i O h L Q g s=>mZ rfl (zE p (by omega) hl g s)) (j.front (nU G pm m)) fun a3 c3 W u=>?_
 refine aQ (c:=[I n,.slice a1 m.cfg.aE.toNat E,.slice D m.cfg.aN.toNat c2,.slice a3 (m.cfg.lines*2) c3]) rfl (ax (b:=p1) (o:=0) u fun X q=>?_)
 have S:∀(c:Nat),bG (kU vv) fun v=>nG v (I (m.cfg.lines*2:Nat))=true:=fun _=>qN J (by rw[oK,R];exact gF)
 have B:nG vv vv=true:=by obtain⟨a,c,rfl,_⟩:=J;exact Hq
 refine bT gF (bT gF (bT gF (bT (aA bZ) (bT (aA bZ) (bT (am p2 f (v:=I m.cfg.aN) rfl (by rw[t];exact gF)) (bT (am e f rfl bZ) (bT uv ?_)))))))
 refine bT (aA bZ) (bT (aA bZ) (bT (am p2 f (v:=vv) rfl B) (bT (am p2 k (v:=vv) rfl B) (bT (S 0) (bT (S 0) (bT (am e f rfl bZ) (bT (am e k rfl bZ) (bT uv (bT uv ?_)))))))))
 refine an p1 q (l:=[I n,.slice a1 m.cfg.aE.toNat E,.slice D m.cfg.aN.toNat c2,.slice a3 (m.cfg.lines*2) c3]) rfl rfl ?_
 have g:=q.cZ (cN 7 30 a1 E (m.cfg.aE.toNat,Z2 m)) (cN 1 3 D c2 (m.cfg.aN.toNat,yh m)) (cN 1 3 a3 c3 (m.cfg.lines*2,bc m))
 exact s a1 E D c2 a3 c3 _ g.to
structure RA (G:Bg) (A:HP) (C:bP) (pv wv ov vv lv:Value) (ps:List (List Ins)) (ws os vs:List Int) (l:List Ev):Prop where
 n:ps.length<=1000/\ws.length<1000/\os.length<1000
 lim:Ob G 0 eT
 ops:Ob G 1 sI
 m:Nv G pv wv ov vv ps ws os vs
 e:RdE G A lv l
 en:l.length<=10000
theorem Ya {C:bP} {ps:List (List Ins)} {ws os vs:List Int} (h:oI C ps ws os vs=0):vs.length=C.lines*2:=by
 unfold oI at h;split at h;cases h;split at h;cases h;omega
theorem Lh {C:bP} {pv p ov vv lv:Value} {ps:List (List Ins)} {ws os vs:List Int} {l:List Ev} {A:HP} (g:RA G A C pv p ov vv lv ps ws os vs l) (a:Hs G h (A::L))
  (B:oI C ps ws os vs≠0->∀j,Hs G j (A::L)->Q (.tuple ⟨[.agg ⟨[I 0,.slice none 0 0,.slice none 0 0,.slice none 0 0]⟩,I (oI C ps ws os vs)]⟩) j)
  (D:oI C ps ws os vs=0->aBq G (dA (rM C ps ws os vs) l 0).1 (A::L) fun x y z j=>Q (.tuple ⟨[.agg ⟨[I (dA (rM C ps ws os vs) l 0).2.1,x,y,z]⟩,I (dA (rM C ps ws os vs) l 0).2.2]⟩) j):Cl Pr K 49 [.agg ⟨qd C pv p ov vv⟩,lv] h Q:=by
 refine cW (dR a fun v h a=>bQ a fun k h a=>an v a (l:=qd C pv p ov vv) rfl rfl ?_)
 refine Fj g.n g.lim g.ops g.m a (fun e h a=>?_) (fun e pm h a=>?_)
 .refine aH rfl (aH rfl (bQ a fun f h a=>ax (b:=f) (o:=0) a fun h a=>bC (bS e (aQ (c:=[I 0,.slice none 0 0,.slice none 0 0,.slice none 0 0]) rfl (ax (b:=k) (o:=0) a fun h a=>an k a (l:=[I 0,.slice none 0 0,.slice none 0 0,.slice none 0 0]) rfl rfl (B e _ a.to))))))
 .refine aH rfl (aH rfl (bQ a fun f h a=>ax (b:=f) (o:=0) a fun h a=>bC (aab (bW (am f a rfl ?_)))));refine Vg (Il e) g.e g.lim g.en (a.cI (nU G pm (rM C ps ws os vs)) A) fun i h a=>aH rfl (aH rfl (aH rfl (ax (b:=f) (o:=0) a fun h a=>?_)));obtain⟨s,q⟩:=Mw l (rM C ps ws os vs) 0 (Il e);have a:=a.cZ (nU G i (dA (rM C ps ws os vs) l 0).1) (aG v 0 (qd C pv p ov vv)) (aG f 0 [pt i 0 0]);refine mZ rfl (x6 (C:=C) s q g.lim g.m.vs (Ya e) a fun a1 u t c2 a3 c3 h a=>?_);refine ax (b:=k) (o:=0) a fun h a=>an k a (l:=[I (dA (rM C ps ws os vs) l 0).2.1,.slice a1 (dA (rM C ps ws os vs) l 0).1.cfg.aE.toNat u,.slice t (dA (rM C ps ws os vs) l 0).1.cfg.aN.toNat c2,.slice a3 ((dA (rM C ps ws os vs) l 0).1.cfg.lines*2) c3]) rfl rfl (D e a1 u t c2 a3 c3 _ a.to)
theorem qX {C:bP} {pv i ov vv lv:Value} {ps:List (List Ins)} {ws os vs:List Int} {l:List Ev} {A:HP} (f:RA G A C pv i ov vv lv ps ws os vs l) (a:Hs G h (A::L))
  (j:oI C ps ws os vs≠0\/(dA (rM C ps ws os vs) l 0).2.2=0->∀g,Hs G g (A::L)->Q (.tuple ⟨[I 0,.bool false]⟩) g)
  (k:oI C ps ws os vs=0->(dA (rM C ps ws os vs) l 0).2.2≠0->∀g,Hs G g (A::L)->Q (.tuple ⟨[I (dA (rM C ps ws os vs) l 0).2.1,.bool true]⟩) g):Cl Pr K 48 [.agg ⟨qd C pv i ov vv⟩,lv] h Q:=by
 refine cW (dR a fun p h a=>an p a (l:=qd C pv i ov vv) rfl rfl ?_)
 refine Fj f.n f.lim f.ops f.m a (fun e h a=>?_) (fun e pm h a=>?_)
 .exact aH rfl (aH rfl (bC (bS e (j (.inl e) _ a.to))))
 .refine aH rfl (aH rfl (bC (aab (bW ?_))));refine Vg (Il e) f.e f.lim f.en (a.cI (nU G pm (rM C ps ws os vs)) A) fun q h a=>aH rfl (aH rfl (aH rfl (bH (aX (fun c=>?_) (fun c=>?_)))))
  .exact j (.inr c) _ a.to
  .exact k e c _ a.to
end
end Go.Proofs.YtajjljbmfdboaaaGreatDoor.A
end
namespace Go.Pc
open Go Go.Ab Go.Hm Go.Ct
section
structure CL where
 st:Int
 d:Ln
 pB:Bool
 aw:Bool
 gi:Bool
 gs:Int
 gd:Ln
abbrev wh:=Nat->CL
def isN (k:Int) (i l:Nat) (n:aJ):Bool:=decide (n.kind=k/\n.core=(i:Int)/\n.line=(l:Int))
def eX (k:Int) (i l:Nat) (N:List aJ):Nat:=N.countP (isN k i l)
theorem cY {k:Int} {i l:Nat} {n:aJ} {N:List aJ}:eX k i l (n::N)=eX k i l N+if n.kind=k/\n.core=(i:Int)/\n.line=(l:Int) then 1 else 0:=by
 unfold eX isN;rw[List.countP_cons];simp only[decide_eq_true_eq]
theorem C3 {k:Int} {i l:Nat} {M N:List aJ}:eX k i l (M++N)=eX k i l M+eX k i l N:=List.countP_append
theorem Y6 {k:Int} {i l:Nat}:eX k i l []=0:=rfl
theorem q8 {k:Int} {i l:Nat} {M N:List aJ} (h:M.Perm N):eX k i l M=eX k i l N:=h.countP_eq _
theorem Ii {k:Int} {i l:Nat} {N:List aJ} (h:0<eX k i l N):∃n∈N,n.kind=k/\n.core=(i:Int)/\n.line=(l:Int):=by
 unfold eX at h;obtain⟨n,b,a⟩:=List.countP_pos_iff.1 h;exact⟨n,b,of_decide_eq_true a⟩
theorem fR {k:Int} {i l:Nat} {N:List aJ} {n:aJ} (h:n∈N) (a:n.kind=k) (b:n.core=(i:Int)) (e:n.line=(l:Int)):0<eX k i l N:=
 List.countP_pos_iff.2 ⟨n,h,decide_eq_true ⟨a,b,e⟩⟩
def uE (c:CL) (p:Nat):Int:=if c.st≠0 then c.st else if c.gi=true/\0<p then c.gs else 0
def sP (c:CL):Ln:=if c.st≠0 then c.d else c.gd
def pd (l:Nat) (r:Row) (N:List aJ) (i:Nat):Nat:=eX 3 i l N+eX 3 i l r.waits
def HH (l:Nat) (r:Row) (c:wh) (N:List aJ) (i:Nat):Int:=uE (c i) (pd l r N i)
def zJ (r:Row) (i:Nat):Nat:=if r.busy=true/\r.granted=false/\r.served.kind≠0/\r.served.core=(i:Int) then 1 else 0
def wF (r:Row) (i:Nat):Nat:=if r.granted=true/\r.served.core=(i:Int) then 1 else 0
structure Inv (l:Nat) (r:Row) (m V:Ln) (c:wh) (N:List aJ):Prop where
 row:oZ l r
 ks:r.busy=true->r.served.kind=0\/r.served.kind=1\/r.served.kind=2
 kg:r.granted=true->r.served.kind≠0
 told:r.told=true->r.granted=true
 nc:∀n∈N,n.line=l/\0<=n.core/\n.core<4
 ex:∀i,i<4->(c i).st≠0\/(c i).pB=true->(c i).gi=false
 uB:∀i,i<4->(0<=(c i).st/\(c i).st<=4)/\(0<=(c i).gs/\(c i).gs<=4)
 t1:∀i,i<4->eX 1 i l N+eX 2 i l N+eX 1 i l r.waits+eX 2 i l r.waits+zJ r i+eX 8 i l N+eX 9 i l N=(c i).pB.toNat
 t2:∀i,i<4->eX 3 i l N+eX 3 i l r.waits+eX 10 i l N=(c i).gi.toNat
 t3:∀i,i<4->eX 11 i l N+eX 5 i l N=(r.asked i).toNat
 t4:∀i,i<4->eX 8 i l N+eX 4 i l N=wF r i
 a1:∀i,i<4->(c i).pB=true->HH l r c N i≠2/\HH l r c N i≠4
 a2:∀i,i<4->(c i).pB=true->(c i).aw=false->HH l r c N i=0
 rq:∀n,n∈N\/n∈r.waits->n.kind=1\/n.kind=2->(n.kind=2↔(c n.core.toNat).aw=true)
 rs:r.busy=true->r.granted=false->r.served.kind≠0->(r.served.kind=2↔(c r.served.core.toNat).aw=true)
 c1:∀i,i<4->eX 5 i l N=0->eX 8 i l N=0->(HH l r c N i=1↔r.sh i=true)/\(2<=HH l r c N i↔r.owner=(i:Int))
 c2:∀i,i<4->HH l r c N i=2\/HH l r c N i=4->∀j,j<4->j≠i->HH l r c N j=0
 As:∀i,i<4->HH l r c N i=2\/HH l r c N i=4->∀n∈N,n.kind=5->n.jU=false
 gN:∀n∈N,n.kind=8->(n.state=1\/n.state=2\/n.state=4)/\(n.state=4↔(c n.core.toNat).aw=true)/\
  (n.state=1->r.sh n.core.toNat=true/\HH l r c N n.core.toNat=0/\∀j,j<4->HH l r c N j≠2/\HH l r c N j≠4)/\
  (n.state≠1->r.owner=n.core/\∀j:Nat,j<4->r.sh j=false/\((j:Int)≠n.core->HH l r c N j=0))/\
  (n.state=2->HH l r c N n.core.toNat=0)/\(HH l r c N n.core.toNat=0->(n.d0,n.d1)=V)
 pN:∀n∈N,n.kind=11->n.state=(if r.served.kind=1 then 1 else 0)/\(r.sh n.core.toNat=true\/r.owner=n.core)/\(r.served.kind=1->r.owner=n.core)
 rN:∀n∈N,n.kind=5->(r.served.kind≠1->HH l r c N n.core.toNat=0)/\
  (r.served.kind=1->r.owner=n.core/\n.state=HH l r c N n.core.toNat/\((n.state=1/\n.jU=false)\/(n.state=3/\n.jU=true)))/\(n.jU=true->(n.d0,n.d1)=V)
 uN:∀n,n∈N\/n∈r.waits->n.kind=3->(n.d0,n.d1)=(c n.core.toNat).gd/\((c n.core.toNat).gs=3\/(c n.core.toNat).gs=4->n.jU=true)
 c3:∀i,i<4->HH l r c N i≠0->sP (c i)=V
 c5:(∀i,i<4->HH l r c N i≠3/\HH l r c N i≠4)->(∀n∈N,n.kind=5->n.jU=false)->m=V
 k2:r.busy=true->r.granted=false->r.served.kind≠1->∀j:Nat,j<4->(r.served.kind=2->(j:Int)≠r.served.core)->r.sh j=true\/r.owner=(j:Int)->r.asked j=true
variable {l:Nat} {r:Row} {m V:Ln} {c:wh} {N N':List aJ}
theorem Inv.perm (h:Inv l r m V c N) (p:N.Perm N'):Inv l r m V c N':=by
 have e:∀k i,eX k i l N'=eX k i l N:=fun k i=>(q8 p).symm;have a:∀i,HH l r c N' i=HH l r c N i:=fun i=>by unfold HH pd;rw[e]
 have em:∀n,n∈N'↔n∈N:=fun n=>p.symm.mem_iff;constructor;exact h.row;exact h.ks;exact h.kg;exact h.told;intro n f;exact h.nc n ((em n).1 f);exact h.ex;exact h.uB;intro i b;simp only[e];exact h.t1 i b;intro i b;simp only[e];exact h.t2 i b;intro i b;simp only[e];exact h.t3 i b;intro i b;simp only[e];exact h.t4 i b;simp only[a];exact h.a1;simp only[a];exact h.a2;simp only[em];exact h.rq;exact h.rs;simp only[e,a];exact h.c1;simp only[a];exact h.c2;simp only[a,em];exact h.As;simp only[a,em];exact h.gN;simp only[em];exact h.pN;simp only[a,em];exact h.rN;simp only[em];exact h.uN;simp only[a];exact h.c3;simp only[a,em];exact h.c5;exact h.k2
end
section
variable {l:Nat} {r:Row} {m V:Ln} {c:wh} {N:List aJ} {n:aJ}
theorem fO (h:0<=n.core/\n.core<4):∃i:Nat,i<4/\n.core=(i:Int)/\n.core.toNat=i:=⟨n.core.toNat,by omega,by omega,rfl⟩
theorem Inv.aE4 (h:Inv l r m V c (n::N)) (z:n.kind=1\/n.kind=2\/n.kind=3):Inv l (r.wait n) m V c N:=by
 have p:=h.nc n (by simp);have o:∀k i,eX k i l (r.wait n).waits=eX k i l r.waits+if n.kind=k/\n.core=(i:Int)/\n.line=(l:Int) then 1 else 0:=fun k i=>by
  show eX k i l (r.waits++[n])=_;rw[C3,cY,Y6];omega
 have e:∀i,HH l (r.wait n) c N i=HH l r c (n::N) i:=fun i=>by
  unfold HH pd;rw[o,cY];congr 1;omega
 have f:∀k i,(k=4\/k=5\/k=8\/k=9\/k=10\/k=11)->eX k i l (n::N)=eX k i l N:=fun k i s=>by
  rw[cY,aaa];omega
 have em:∀x,x∈N->x∈n::N:=fun x a=>List.mem_cons_of_mem _ a;have g:∀x,x∈(r.wait n).waits↔x∈r.waits\/x=n:=fun x=>by
  show x∈r.waits++[n]↔_;simp
 have t:∀i,zJ (r.wait n) i=zJ r i:=fun _=>rfl;have u:∀i,wF (r.wait n) i=wF r i:=fun _=>rfl;constructor;exact By h.row p.1 p.2 (by omega);exact h.ks;exact h.kg;exact h.told;intro x a;exact h.nc x (em x a);exact h.ex;exact h.uB;intro i b;have:=h.t1 i b;rw[f 8 i (by omega),f 9 i (by omega),cY (k:=1),cY (k:=2)] at this;grind;intro i b;have:=h.t2 i b;rw[f 10 i (by omega),cY (k:=3)] at this;rw[o];omega;intro i b;have:=h.t3 i b;rw[f 11 i (by omega),f 5 i (by omega)] at this;exact this;intro i b;have:=h.t4 i b;grind;simp only[e];exact h.a1;simp only[e];exact h.a2;intro x a;refine h.rq x ?_;rw[g] at a;grind;exact h.rs;intro i b y q;rw[e];exact h.c1 i b (by grind) (by rw[f 8 i (by omega)];exact q);simp only[e];exact h.c2;simp only[e];exact fun i b j x a=>h.As i b j x (em x a);simp only[e];exact fun x a=>h.gN x (em x a);exact fun x a=>h.pN x (em x a);simp only[e];exact fun x a=>h.rN x (em x a);intro x a;refine h.uN x ?_;rw[g] at a;grind;simp only[e];exact h.c3;simp only[e];exact fun j v=>h.c5 j (fun x a=>by grind);exact h.k2
theorem Inv.uq (h:Inv l r m V c (n::N)) (O:n.kind=4):r.granted=true/\r.served.core=n.core/\Inv l r.free m V c N:=by
 have z:=h.nc n (by simp);obtain⟨i0,v,u,K⟩:=fO z.2;have A:wF r i0=1:=by
  have:=h.t4 i0 v;rw[cY (k:=4),aJ7 ⟨O,u,z.1⟩] at this;have:wF r i0<=1:=by unfold wF;split<;>omega
  omega
 have p:r.granted=true/\r.served.core=n.core:=by unfold wF at A;split at A<;>grind
 refine⟨p.1,p.2,?_⟩;have B:=h.row.still (.inl p.1);have J:∀i,i<4->r.asked i=false:=fun i g=>by
  unfold Row.quiet at B;grind
 have f:∀k i,k≠4->eX k i l (n::N)=eX k i l N:=fun k i R=>by
  rw[cY,aaa];omega
 have q:∀i,HH l r.free c N i=HH l r c (n::N) i:=fun i=>by
  unfold HH pd;rw[f 3 i (by omega)];rfl
 have em:∀x,x∈N->x∈n::N:=fun x a=>List.mem_cons_of_mem _ a;have D:∀x∈N,x.kind≠5/\x.kind≠11:=fun x a=>by
  have b:=h.nc x (em x a);obtain⟨j,y,o,_⟩:=fO b.2;have t:=h.t3 j y;rw[J j y,f 11 j (by omega),f 5 j (by omega)] at t;refine⟨fun e=>?_,fun e=>?_⟩;have:=fR a e o b.1;simp at t;omega;have:=fR a e o b.1;simp at t;omega
 have E:∀i,i<4->eX 8 i l N=0/\eX 4 i l N=0:=fun i g=>by
  have:=h.t4 i g;rw[f 8 i (by omega),cY (k:=4)] at this;unfold wF at this;grind
 have F:∀x∈N,x.kind≠8:=fun x a e=>by
  have b:=h.nc x (em x a);obtain⟨j,y,o,_⟩:=fO b.2;have:=fR a e o b.1;grind
 constructor;exact Bx h.row B;intro e;cases e;intro e;cases e;intro e;cases e;intro x a;exact h.nc x (em x a);exact h.ex;exact h.uB;intro i g;have:=h.t1 i g;rw[f 1 i (by omega),f 2 i (by omega),f 8 i (by omega),f 9 i (by omega)] at this;have I:zJ r i=0:=by unfold zJ;rw[aJ6 (by rw[p.1];simp)]
 have s:zJ r.free i=0:=by unfold zJ Row.free;simp
 rw[I] at this;rw[s];exact this;intro i g;have:=h.t2 i g;rw[f 3 i (by omega),f 10 i (by omega)] at this;exact this;intro i g;have:=h.t3 i g;rw[f 11 i (by omega),f 5 i (by omega)] at this;exact this;intro i g;have:=E i g;unfold wF Row.free;simp;omega;simp only[q];exact h.a1;simp only[q];exact h.a2;intro x a;exact h.rq x (a.imp (em x) id);intro e;cases e;intro i g T U;rw[q];exact h.c1 i g (by grind) (by grind);simp only[q];exact h.c2;grind;grind;grind;exact fun x a e=>absurd e (D x a).1;intro x a;exact h.uN x (a.imp (em x) id);simp only[q];exact h.c3;simp only[q];exact fun s S=>h.c5 s (fun x a=>by grind);intro e;cases e
theorem Inv.aHw {i:Nat} (h:Inv l r m V c (n::N)) (O:n.kind=9) (z:i<4) (y:n.core=(i:Int)):(c i).pB=true/\Inv l r m V (aS c i {c i with pB:=false,aw:=false}) N:=by
 have K:=h.nc n (by simp);have has:(c i).pB=true:=by
  have:=h.t1 i z;rw[cY (k:=9),aJ7 ⟨O,y,K.1⟩] at this;cases D:(c i).pB with
  |true=>rfl
  |false=>grind
 refine⟨has,?_⟩;have em:∀x,x∈N->x∈n::N:=fun x a=>List.mem_cons_of_mem _ a;have s:∀k j,k≠9->eX k j l (n::N)=eX k j l N:=fun k j S=>by
  rw[cY,aaa];omega
 have T:eX 1 i l N=0/\eX 2 i l N=0/\eX 1 i l r.waits=0/\eX 2 i l r.waits=0/\zJ r i=0/\eX 8 i l N=0/\eX 9 i l N=0:=by
  have:=h.t1 i z;rw[s 1 i (by omega),s 2 i (by omega),s 8 i (by omega),cY (k:=9),aJ7 ⟨O,y,K.1⟩,has] at this;grind
 have p:∀j,HH l r (aS c i {c i with pB:=false,aw:=false}) N j=HH l r c (n::N) j:=fun j=>by
  unfold HH pd;rw[s 3 j (by omega)];unfold aS;split;rename_i e;subst e;rfl;rfl
 have t:∀j,(aS c i {c i with pB:=false,aw:=false}) j=if j=i then {c i with pB:=false,aw:=false} else c j:=fun j=>rfl
 have R:∀j,sP ((aS c i {c i with pB:=false,aw:=false}) j)=sP (c j):=fun j=>by rw[t];split<;>simp_all [sP]
 have o:∀j,((aS c i {c i with pB:=false,aw:=false}) j).gd=(c j).gd/\((aS c i {c i with pB:=false,aw:=false}) j).gs=(c j).gs/\((aS c i {c i with pB:=false,aw:=false}) j).gi=(c j).gi/\((aS c i {c i with pB:=false,aw:=false}) j).st=(c j).st:=fun j=>by grind
 have A:∀x,x∈N\/x∈r.waits->x.kind=1\/x.kind=2\/x.kind=8->x.core.toNat≠i:=by
  intro x a B e;have v:x.line=l/\0<=x.core/\x.core<4:=by
   rcases a with a|a;exact h.nc x (em x a);have:=h.row.waits x a;grind
  have u:x.core=(i:Int):=by omega
  rcases a with a|a;rcases B with q|q|q<;>(have:=fR a q u v.1;omega);have Z:=(h.row.waits x a).2.2;rcases B with q|q|q;have:=fR a q u v.1;omega;have:=fR a q u v.1;omega;omega
 constructor;exact h.row;exact h.ks;exact h.kg;exact h.told;intro x a;exact h.nc x (em x a);intro j f a;rw[(o j).2.2.1];rw[(o j).2.2.2,t] at a;refine h.ex j f ?_;grind;intro j f;rw[(o j).2.2.2,(o j).2.1];exact h.uB j f;intro j f;have:=h.t1 j f;rw[s 1 j (by omega),s 2 j (by omega),s 8 j (by omega),cY (k:=9)] at this;grind;intro j f;have:=h.t2 j f;grind;intro j f;have:=h.t3 j f;grind;intro j f;have:=h.t4 j f;grind;intro j f D;rw[p];refine h.a1 j f ?_;rw[t] at D;grind;intro j f D v;rw[p];rw[t] at D v;refine h.a2 j f ?_ ?_<;>grind;intro x a F;rw[t,aJ6 (A x a (by omega))];exact h.rq x (a.imp (em x) id) F;intro b g U;have:=T.2.2.2.2.1;unfold zJ at this;rw[t,aJ6 (fun e=>by have:=h.row.core;grind)];exact h.rs b g U;intro j f X Y;rw[p];exact h.c1 j f (by grind) (by grind);simp only[p];exact h.c2;simp only[p];exact fun j f E x a=>h.As j f E x (em x a);intro x a J;simp only[p];rw[t,aJ6 (A x (.inl a) (by omega))];exact h.gN x (em x a) J;exact fun x a=>h.pN x (em x a);simp only[p];exact fun x a=>h.rN x (em x a);intro x a I;rw[(o _).1,(o _).2.1];exact h.uN x (a.imp (em x) id) I;intro j f;rw[p,R];exact h.c3 j f;simp only[p];exact fun E W=>h.c5 E (fun x a=>by grind);exact h.k2
end
section
variable {l:Nat} {r:Row} {m V:Ln} {c:wh} {N:List aJ} {n:aJ}
theorem fE {α:Type} {f:Nat->α} {i:Nat} {x:α}:aS f i x i=x:=by unfold aS;rw[aJ7 rfl]
theorem cF {α:Type} {f:Nat->α} {i j:Nat} {x:α} (h:j≠i):aS f i x j=f j:=by unfold aS;rw[aJ6 h]
theorem Inv.aCa {i:Nat} (h:Inv l r m V c (n::N)) (F:n.kind=10) (b:i<4) (t:n.core=(i:Int)) {gd':Ln} {gs':Int} (E:gs'=0):(c i).gi=true/\Inv l r m V (aS c i {c i with gi:=false,gs:=gs',gd:=gd'}) N:=by
 have D:=h.nc n (by simp);have p:∀k j,eX k j l (n::N)=eX k j l N+if k=10/\j=i then 1 else 0:=fun k j=>by
  rw[cY];grind
 have g:(c i).gi=true:=by have:=h.t2 i b;grind
 refine⟨g,?_⟩;have o:eX 3 i l N=0/\eX 3 i l r.waits=0:=by have:=h.t2 i b;grind
 have em:∀x,x∈N->x∈n::N:=fun x a=>List.mem_cons_of_mem _ a;have v:=h.ex i b;have f:∀j,HH l r (aS c i {c i with gi:=false,gs:=gs',gd:=gd'}) N j=HH l r c (n::N) j:=fun j=>by
  unfold HH pd;rw[p 3 j,aaa];by_cases e:j=i;subst e;rw[fE,o.1,o.2];simp[uE];rw[cF e];rfl
 have z:∀j,HH l r c (n::N) j≠0->sP ((aS c i {c i with gi:=false,gs:=gs',gd:=gd'}) j)=sP (c j):=fun j u=>by
  by_cases e:j=i;subst e;rw[fE];unfold sP;simp only;split<;>try rfl
  rename_i q;exfalso;apply u;rw[<-f,HH,fE];simp[uE,q];rw[cF e]
 have B:∀x,x∈N\/x∈r.waits->x.kind=3->x.core.toNat≠i:=fun x a k e=>by
  rcases a with a|a;have:=h.nc x (em x a);have:=fR a k (i:=i) (by omega) this.1;omega;have:=h.row.waits x a;have:=fR a k (i:=i) (by omega) this.1;omega
 constructor;exact h.row;exact h.ks;exact h.kg;exact h.told;grind [h.nc];have:=h.ex;grind [aS];have:=h.uB;grind [aS];have:=h.t1;grind [aS];have:=h.t2;grind [aS];have:=h.t3;grind [aS];have:=h.t4;grind [aS];have:=h.a1;grind [aS];have:=h.a2;grind [aS];have:=h.rq;grind [aS];have:=h.rs;grind [aS];have:=h.c1;grind [aS];have:=h.c2;grind [aS];have:=h.As;grind [aS];intro x a y;simp only[f];have:=h.gN x (em x a) y;grind [aS];have:=h.pN;grind [aS];have:=h.rN;grind [aS];have:=h.uN;grind [aS];have:=h.c3;grind;simp only[f];exact fun s A=>h.c5 s (by grind);have:=h.k2;grind [aS]
theorem fZ (h:r.quiet=true) {i:Nat} (a:i<4):r.asked i=false:=by
 unfold Row.quiet at h;grind
theorem Inv.bd (h:Inv l r m V c N) {x:aJ} (a:x∈N\/x∈r.waits):x.line=l/\0<=x.core/\x.core<4:=by
 rcases a with a|a;exact h.nc x a;have:=h.row.waits x a;grind
theorem Inv.none (h:Inv l r m V c N) {k:Int} {i:Nat} (f:eX k i l N=0) {x:aJ} (a:x∈N) (b:x.kind=k):x.core≠(i:Int):=fun e=>by
 have:=fR a b e (h.nc x a).1;omega
theorem Inv.calm (h:Inv l r m V c N) (k:r.quiet=true) {x:aJ} (g:x∈N):x.kind≠5/\x.kind≠11:=by
 have f:=h.nc x g;obtain⟨j,i,a,_⟩:=fO f.2;have b:=h.t3 j i;rw[fZ k i] at b;refine⟨fun e=>?_,fun e=>?_⟩;have:=fR g e a f.1;simp at b;omega;have:=fR g e a f.1;simp at b;omega
theorem Inv.no8 (h:Inv l r m V c N) {i:Nat} (a:i<4) (f:wF r i=0) {x:aJ} (e:x∈N) (b:x.kind=8):x.core≠(i:Int):=
 h.none (by have:=h.t4 i a;omega) e b
theorem Inv.own (h:Inv l r m V c N) {i:Nat} (j:i<4) (g:2<=HH l r c N i):r.owner=(i:Int):=by
 by_cases b:eX 5 i l N=0;by_cases f:eX 8 i l N=0;exact((h.c1 i j b f).2).1 g;obtain⟨x,a,k,e,_⟩:=Ii (Nat.pos_of_ne_zero f);have:=h.gN x a k;grind;obtain⟨x,a,k,e,_⟩:=Ii (Nat.pos_of_ne_zero b);have:=h.rN x a k;grind
def yQ (i:Int) (l:Nat):aJ:=⟨4,i,l,0,0,0,0,false,0⟩
theorem Inv.granted {i:Nat} (h:Inv l r m V c (n::N)) (J:n.kind=8) (b:i<4) (B:n.core=(i:Int)) {d':Ln} (T:d'=if(c i).st≠0 then(c i).d else(n.d0,n.d1)):
  ((c i).pB=true/\(c i).gi=false/\(n.state=1\/n.state=2\/n.state=4))/\Inv l r m V (aS c i {c i with st:=n.state,d:=d',pB:=false,aw:=false}) (yQ i l::N):=by
 have S:=h.nc n (by simp)
 have o:∀k j,eX k j l (n::N)=eX k j l N+if k=8/\j=i then 1 else 0:=fun k j=>by
  rw[cY];congr 1;simp only[J,B,S.1];grind
 have v:∀k j,eX k j l (yQ i l::N)=eX k j l N+if k=4/\j=i then 1 else 0:=fun k j=>by
  rw[cY];congr 1;simp only[yQ];grind
 have U:r.granted=true/\r.served.core=(i:Int):=by
  have:=h.t4 i b;rw[o,o] at this;simp at this;unfold wF at this;grind
 have has:(c i).pB=true:=by have:=h.t1 i b;rw[o 8] at this;cases a:(c i).pB<;>simp_all
 have p:=h.ex i b (.inr has)
 have F:=h.gN n (by simp) J
 refine⟨⟨has,p,F.1⟩,?_⟩
 have X:=h.row.still (.inl U.1)
 have A:=fun x a=>h.calm X (x:=x) a
 have hz:eX 1 i l N=0/\eX 2 i l N=0/\eX 1 i l r.waits=0/\eX 2 i l r.waits=0/\eX 8 i l N=0/\eX 4 i l N=0/\eX 9 i l N=0:=by
  have:=h.t1 i b;have q:=h.t4 i b;simp only[o,has] at this q;unfold wF at q;simp at this q;split at q<;>omega
 have h3:eX 3 i l N=0/\eX 3 i l r.waits=0:=by have:=h.t2 i b;simp only[o,p] at this;simp at this;omega
 have em:∀x,x∈N->x∈n::N:=fun x a=>List.mem_cons_of_mem _ a
 have e8:∀x∈N,x.kind≠8:=fun x a k=>by
  have t:=h.nc x (em x a);obtain⟨j,g,D,_⟩:=fO t.2;have q:=h.t4 j g;have:=fR a k D t.1;simp only[o] at q;by_cases e:j=i;subst e;omega;have:wF r j=0:=by unfold wF;rw[aJ6 (fun e2=>e (by omega))]
  omega
 generalize hC:aS c i {c i with st:=n.state,d:=d',pB:=false,aw:=false}=c'
 have ci:c' i={c i with st:=n.state,d:=d',pB:=false,aw:=false}:=by rw[<-hC,fE]
 have u:∀j,j≠i->c' j=c j:=fun j e=>by rw[<-hC,cF e]
 have I:∀j,(c' j).gi=(c j).gi/\(c' j).gs=(c j).gs/\(c' j).gd=(c j).gd:=fun j=>by by_cases e:j=i<;>grind
 have y:HH l r c' (yQ i l::N) i=n.state:=by
  unfold HH;rw[ci];unfold uE;rw[aJ7 (by simp only;omega)]
 have z:HH l r c (n::N) i=(c i).st:=by unfold HH uE;rw[p];simp;omega
 have K:∀j,j≠i->HH l r c' (yQ i l::N) j=HH l r c (n::N) j:=fun j e=>by
  unfold HH pd;rw[o 3 j,v 3 j,aaa,aaa,u j e]
 have E:sP (c' i)=V:=by
  rw[ci];unfold sP;rw[aJ7 (by simp only;omega)];simp only[T];split;rename_i e;have:=h.c3 i b (by rw[z];exact e);unfold sP at this;grind;grind
 constructor
 case row=>exact h.row
 case ks=>exact h.ks
 case kg=>exact h.kg
 case told=>exact h.told
 case nc=>intro x a;rcases List.mem_cons.1 a with rfl|a;exact⟨rfl,by simp only[yQ];omega⟩;exact h.nc x (em x a)
 case ex=>have:=h.ex;grind
 case uB=>have:=h.uB;grind
 case t1=>
  intro j g
  have O:=h.t1 j g
  grind
 case t2=>have:=h.t2;grind
 case t3=>have:=h.t3;grind
 case t4=>have:=h.t4;grind
 case a1=>have:=h.a1;grind
 case a2=>have:=h.a2;grind
 case rq=>
  intro x a s
  have f:x∈N\/x∈r.waits:=a.imp (fun h=>by rcases List.mem_cons.1 h with rfl|h;simp[yQ] at s;exact h) id
  have t:=h.bd (f.imp (em x) id)
  have W:x.core≠(i:Int):=by
   rcases f with a|a<;>rcases s with s|s<;>(intro e;have:=fR a s e t.1;omega)
  rw[u _ (by omega)];exact h.rq x (f.imp (em x) id) s
 case rs=>grind
 case c1=>
  intro j g h5 h8
  by_cases e:j=i
  .subst e;rw[y];have:=h.row.apart j g;grind
  .rw[K j e];exact h.c1 j g (by grind) (by grind)
 case c2=>
  grind
 case As=>intro j g R x a Y;rcases List.mem_cons.1 a with rfl|a;simp[yQ] at Y;grind
 case gN=>intro x a Z;rcases List.mem_cons.1 a with rfl|a;simp[yQ] at Z;grind
 case pN=>intro x a k;rcases List.mem_cons.1 a with rfl|a;simp[yQ] at k;grind
 case rN=>intro x a k;rcases List.mem_cons.1 a with rfl|a;simp[yQ] at k;grind
 case uN=>
  intro x a k
  have f:x∈N\/x∈r.waits:=a.imp (fun h=>by rcases List.mem_cons.1 h with rfl|h;simp[yQ] at k;exact h) id
  rw[(I _).2.1,(I _).2.2];exact h.uN x (f.imp (em x) id) k
 case c3=>
  intro j g h0
  by_cases e:j=i
  .subst e;exact E
  .rw[u j e];exact h.c3 j g (by grind)
 case c5=>
  intro O R
  refine h.c5 (fun j g=>?_) (fun x a=>?_)
  .grind
  grind
 grind
end
section
variable {l:Nat} {r:Row} {m V:Ln} {c:wh} {N:List aJ} {n:aJ}
theorem Pk {c:CL} {p:Nat} (h:uE c p≠0) (a:c.st=0):c.gi=true/\0<p/\uE c p=c.gs:=by
 unfold uE at h ⊢;rw[aJ6 (by simpa using a)] at h ⊢;split at h;rename_i e;rw[aJ7 e];exact⟨e.1,e.2,rfl⟩;exact absurd rfl h
theorem Inv.found {i:Nat} (h:Inv l r m V c (n::N)) (k:n.kind=11) (a:i<4) (b:n.core=(i:Int)):
  r.asked i=true/\r.granted=false/\r.busy=true/\HH l r c (n::N) i≠0/\(n.state=0\/n.state=1)/\((c i).st≠0\/((c i).st=0/\(c i).gi=true)):=by
 have u:=h.nc n (by simp)
 have p:0<eX 11 i l (n::N):=fR (by simp) k b u.1
 have t:r.asked i=true:=by have:=h.t3 i a;grind
 have j:r.granted=false:=by
  cases j:r.granted with
  |false=>rfl
  |true=>have:=fZ (h.row.still (.inl j)) a;grind
 have g:r.busy=true:=by
  cases g:r.busy with
  |true=>rfl
  |false=>have:=fZ (h.row.still (.inr g)) a;grind
 have o:HH l r c (n::N) i≠0:=by
  have q:eX 5 i l (n::N)=0:=by have:=h.t3 i a;grind
  have s:eX 8 i l (n::N)=0:=by have:=h.t4 i a;unfold wF at this;grind
  have:=h.c1 i a q s;have f:=(h.pN n (by simp) k).2.1;rw[b,Int.toNat_natCast] at f;rcases f with f|f;grind;grind
 refine⟨t,j,g,o,?_,?_⟩
 .have:=(h.pN n (by simp) k).1;grind
 .by_cases e:(c i).st=0
  .exact .inr ⟨e,(Pk o e).1⟩
  .exact .inl e
theorem Z3 {x to:Int} (b:1<=x/\x<=4) (a:to=0\/to=1):(to=0->gG x to=0)/\(to=1->gG x to=1\/gG x to=3)/\(to=1->2<=x->x=2/\gG x to=1\/(x=3\/x=4)/\gG x to=3)/\(gG x to=3->x=3\/x=4):=by
 unfold gG Ig;grind
theorem Inv.aDy {i:Nat} {a:CL} {y:aJ} (h:Inv l r m V c (n::N)) (X:n.kind=11) (q:i<4) (J:n.core=(i:Int))
  (O:a.pB=(c i).pB/\a.aw=(c i).aw/\a.gi=(c i).gi/\a.gd=(c i).gd)
  (B:(c i).st≠0->a.st=gG (c i).st n.state/\(a.st≠0->a.d=(c i).d)/\a.gs=(c i).gs)
  (A:(c i).st=0->a.st=0/\a.gs=gG (c i).gs n.state)
  (S:y.kind=5/\y.core=(i:Int)/\y.line=l/\y.state=gG (HH l r c (n::N) i) n.state/\(y.jU=true↔HH l r c (n::N) i=3\/HH l r c (n::N) i=4)/\(y.jU=true->(y.d0,y.d1)=sP (c i))):
  Inv l r m V (aS c i a) (y::N):=by
 have hc:=h.nc n (by simp)
 obtain⟨ha,hg,I,t,D,hw⟩:=h.found X q J
 have Z:∀k j,eX k j l (n::N)=eX k j l N+if k=11/\j=i then 1 else 0:=fun k j=>by
  rw[cY];grind
 have F:∀k j,eX k j l (y::N)=eX k j l N+if k=5/\j=i then 1 else 0:=fun k j=>by
  rw[cY];grind
 have em:∀x,x∈N->x∈n::N:=fun x b=>List.mem_cons_of_mem _ b
 have Y:=h.uB i q
 have hex:=h.ex i q
 have β:sP (c i)=V:=h.c3 i q t
 have s:1<=HH l r c (n::N) i/\HH l r c (n::N) i<=4:=by
  unfold HH at t ⊢;by_cases e:(c i).st=0;have:=Pk t e;omega;unfold uE;rw[aJ7 e];omega
 have ζ:=Z3 s D
 have δ:=Aw (x:=HH l r c (n::N) i) (to:=n.state) (by omega)
 have e5:eX 5 i l N=0:=by have:=h.t3 i q;grind
 have e8:∀x∈N,x.kind≠8:=fun x b k=>by
  have I:=h.nc x (em x b);obtain⟨j,f,K,_⟩:=fO I.2;exact h.no8 f (by unfold wF;rw[hg];simp) (em x b) k K
 generalize hC:aS c i a=c'
 have ci:c' i=a:=by rw[<-hC,fE]
 have T:∀j,j≠i->c' j=c j:=fun j e=>by rw[<-hC,cF e]
 have E:∀j,(c' j).pB=(c j).pB/\(c' j).aw=(c j).aw/\(c' j).gi=(c j).gi/\(c' j).gd=(c j).gd:=fun j=>by grind
 have z:HH l r c' (y::N) i=gG (HH l r c (n::N) i) n.state:=by
  unfold HH at t ⊢;have ep:pd l r (y::N) i=pd l r (n::N) i:=by unfold pd;rw[Z,F];simp
  rw[ep];by_cases e:(c i).st=0;have o:=Pk t e;rw[o.2.2];unfold uE;grind;have U:uE (c i) (pd l r (n::N) i)=(c i).st:=by unfold uE;rw[aJ7 e]
  rw[U,<-(B e).1,ci];unfold uE;grind
 have W:∀j,j≠i->HH l r c' (y::N) j=HH l r c (n::N) j:=fun j e=>by
  unfold HH pd;grind
 have γ:HH l r c' (y::N) i≠0->sP (c' i)=sP (c i):=fun v=>by
  rw[ci];unfold sP;by_cases e:(c i).st=0;grind;by_cases U:a.st=0;exfalso;apply v;rw[z];have:HH l r c (n::N) i=(c i).st:=by unfold HH uE;rw[aJ7 e]
  grind;grind
 have g:∀x,x∈y::N->x=y\/x∈n::N:=fun x b=>by grind
 constructor
 case row=>exact h.row
 case ks=>exact h.ks
 case kg=>exact h.kg
 case told=>exact h.told
 case nc=>intro x b;rcases g x b with rfl|b;exact⟨S.2.2.1,by omega⟩;exact h.nc x b
 case ex=>
  intro j f o
  rw[(E j).2.2.1]
  refine h.ex j f ?_
  grind
 case uB=>
  intro j f
  by_cases e:j=i
  .subst e;rw[ci];by_cases e:(c j).st=0
   .have:=Aw (x:=(c j).gs) (to:=n.state) (by omega);have:=A e;omega
   .have:=Aw (x:=(c j).st) (to:=n.state) (by omega);have:=B e;omega
  .rw[T j e];exact h.uB j f
 case t1=>intro j f;have o:=h.t1 j f;grind
 case t2=>intro j f;have o:=h.t2 j f;grind
 case t3=>intro j f;have o:=h.t3 j f;grind
 case t4=>intro j f;have o:=h.t4 j f;grind
 case a1=>intro j f o;have:=h.a1 j f;grind
 case a2=>intro j f o;have:=h.a2 j f;grind
 case rq=>intro x b k1;rw[(E _).2.1];exact h.rq x (b.imp (fun b=>(g x b).resolve_left (fun e=>by subst e;omega)) id) k1
 case rs=>rw[(E _).2.1];exact h.rs
 case c1=>
  intro j f h5 h8
  have e:j≠i:=fun e=>by grind
  rw[W j e];exact h.c1 j f (by grind) (by grind)
 case c2=>intro j f u;exfalso;have:=h.c2 j f;grind
 case As=>intro j f u;exfalso;have:=h.c2 j f;grind
 case gN=>grind
 case pN=>intro x b k;rcases g x b with rfl|b;omega;exact h.pN x b k
 case rN=>
  intro x b k
  rcases List.mem_cons.1 b with rfl|b
  .rw[S.2.1,Int.toNat_natCast,z];have hp:=h.pN n (by simp) X;grind
  .have ε:x.core≠(i:Int):=fun e=>by have:=fR b k e (h.nc x (em x b)).1;omega
   have I:=h.nc x (em x b)
   rw[W _ (by omega)]
   exact h.rN x (em x b) k
 case uN=>
  intro x b k
  have R:x∈n::N\/x∈r.waits:=b.imp (fun b=>(g x b).resolve_left (fun e=>by subst e;omega)) id
  have o:=h.uN x R k
  rw[(E _).2.2.2]
  refine⟨o.1,fun u=>o.2 ?_⟩
  by_cases e:x.core.toNat=i
  .rw[e,ci] at u;rw[e];by_cases v:(c i).st=0
   .rw[(A v).2] at u;have:1<=(c i).gs/\(c i).gs<=4:=by
     have:=Pk (p:=pd l r (n::N) i) t v;unfold HH at s;omega
    have:=Z3 this D
    grind
   grind
  grind
 case c3=>
  intro j f v
  by_cases e:j=i
  .grind
  .rw[T j e];exact h.c3 j f (by grind)
 case c5=>
  intro o u
  have η:=u y (by simp) S.1
  have α:¬(HH l r c (n::N) i=3\/HH l r c (n::N) i=4):=fun e=>by grind
  refine h.c5 (fun j f=>?_) (fun x b k=>?_)
  .grind
  grind
 case k2=>exact h.k2
theorem Inv.asks {i:Nat} {y:aJ} {wr:Bool} (h:Inv l r m V c N) (A:i<4) (Z:(c i).pB=false) (z:(c i).gi=false) (T:if wr then(c i).st≠2/\(c i).st≠4 else(c i).st=0)
  (U:y.kind=(if wr then 2 else 1)/\y.core=(i:Int)/\y.line=l):
  Inv l r m V (aS c i {c i with pB:=true,aw:=wr}) (y::N):=by
 have u:∀k j,eX k j l (y::N)=eX k j l N+if k=(if wr then 2 else 1)/\j=i then 1 else 0:=fun k j=>by
  rw[cY];grind
 have I:y.kind=1\/y.kind=2:=by grind
 have W:eX 1 i l N=0/\eX 2 i l N=0/\eX 1 i l r.waits=0/\eX 2 i l r.waits=0/\zJ r i=0/\eX 8 i l N=0/\eX 9 i l N=0:=by
  have:=h.t1 i A;grind
 generalize hC:aS c i {c i with pB:=true,aw:=wr}=c'
 have ci:c' i={c i with pB:=true,aw:=wr}:=by rw[<-hC,fE]
 have t:∀j,j≠i->c' j=c j:=fun j e=>by rw[<-hC,cF e]
 have E:∀j,(c' j).st=(c j).st/\(c' j).d=(c j).d/\(c' j).gi=(c j).gi/\(c' j).gs=(c j).gs/\(c' j).gd=(c j).gd:=fun j=>by by_cases e:j=i<;>grind
 have q:∀j,HH l r c' (y::N) j=HH l r c N j:=fun j=>by
  have Y:eX 3 j l (y::N)=eX 3 j l N:=by grind
  unfold HH pd uE;grind
 have S:HH l r c N i=(c i).st:=by unfold HH uE;rw[z];simp;omega
 have J:∀j,sP (c' j)=sP (c j):=fun j=>by unfold sP;grind
 have f:∀x,x∈y::N->x=y\/x∈N:=fun x a=>List.mem_cons.1 a
 constructor
 case row=>exact h.row
 case ks=>exact h.ks
 case kg=>exact h.kg
 case told=>exact h.told
 case nc=>intro x a;rcases f x a with rfl|a;exact⟨U.2.2,by omega⟩;exact h.nc x a
 case ex=>have:=h.ex;grind
 case uB=>have:=h.uB;grind
 case t1=>
  intro j o
  have p:=h.t1 j o
  grind
 case t2=>intro j o;have p:=h.t2 j o;grind
 case t3=>intro j o;have p:=h.t3 j o;grind
 case t4=>intro j o;have p:=h.t4 j o;grind
 case a1=>intro j o p;have:=h.a1 j o;grind
 case a2=>intro j o p F;have:=h.a2 j o;grind
 case rq=>
  intro x a s
  have K:x=y\/(x∈N\/x∈r.waits):=by grind
  rcases K with rfl|a
  .grind
  .have v:=h.bd a;have B:x.core≠(i:Int):=by
    rcases a with a|a<;>rcases s with s|s<;>(intro e;have:=fR a s e v.1;omega)
   rw[t _ (by omega)];exact h.rq x a s
 case rs=>intro b g X;have:=W.2.2.2.2.1;unfold zJ at this;rw[t _ (fun e=>by have:=h.row.core;grind)];exact h.rs b g X
 case c1=>intro j o O R;rw[q];rw[u] at O R;exact h.c1 j o (by omega) (by omega)
 case c2=>simp only[q];exact h.c2
 case As=>simp only[q];intro j o p x a k;rcases f x a with rfl|a;omega;exact h.As j o p x a k
 case gN=>
  intro x a k
  rcases f x a with rfl|a
  .omega
  .have v:=h.nc x a;have B:x.core≠(i:Int):=fun e=>by have:=fR a k e v.1;omega
   simp only[q]
   rw[t _ (by omega)];exact h.gN x a k
 case pN=>intro x a k;rcases f x a with rfl|a;omega;exact h.pN x a k
 case rN=>intro x a k;simp only[q];rcases f x a with rfl|a;omega;exact h.rN x a k
 case uN=>
  intro x a k
  have D:x∈N\/x∈r.waits:=a.imp (fun a=>(f x a).resolve_left (fun e=>by subst e;omega)) id
  rw[(E _).2.2.2.1,(E _).2.2.2.2];exact h.uN x D k
 case c3=>intro j o;rw[q,J];exact h.c3 j o
 case c5=>simp only[q];exact fun p F=>h.c5 p (fun x a=>F x (List.mem_cons_of_mem _ a))
 case k2=>exact h.k2
theorem Inv.yX {i:Nat} {y:aJ} {d':Ln} (h:Inv l r m V c N) (t:i<4) (U:(c i).pB=false) (u:(c i).st≠0)
  (I:y.kind=3/\y.core=(i:Int)/\y.line=l/\(y.d0,y.d1)=(c i).d/\y.jU=jF (c i).st) {q:Bool} (W:q=(c i).aw\/True):
  Inv l r m V (aS c i ⟨0,d',false,q,true,(c i).st,(c i).d⟩) (y::N):=by
 have X:=h.ex i t (.inl u)
 have B:∀k j,eX k j l (y::N)=eX k j l N+if k=3/\j=i then 1 else 0:=fun k j=>by
  rw[cY];grind
 have Z:eX 1 i l N=0/\eX 2 i l N=0/\eX 1 i l r.waits=0/\eX 2 i l r.waits=0/\zJ r i=0/\eX 8 i l N=0/\eX 9 i l N=0:=by
  have:=h.t1 i t;grind
 have α:eX 3 i l N=0/\eX 3 i l r.waits=0/\eX 10 i l N=0:=by have:=h.t2 i t;grind
 generalize hC:aS c i ⟨0,d',false,q,true,(c i).st,(c i).d⟩=c'
 have ci:c' i=⟨0,d',false,q,true,(c i).st,(c i).d⟩:=by rw[<-hC,fE]
 have A:∀j,j≠i->c' j=c j:=fun j e=>by rw[<-hC,cF e]
 have K:∀j,(c' j).pB=(c j).pB:=fun j=>by by_cases e:j=i<;>grind
 have J:HH l r c N i=(c i).st:=by unfold HH uE;rw[aJ7 u]
 have s:∀j,HH l r c' (y::N) j=HH l r c N j:=fun j=>by
  by_cases e:j=i;subst e;rw[J];unfold HH pd;rw[B,ci];simp[uE];unfold HH pd;grind
 have O:∀j,sP (c' j)=sP (c j):=fun j=>by
  by_cases e:j=i;subst e;rw[ci];unfold sP;rw[aJ7 u];simp;rw[A j e]
 have f:∀x,x∈y::N->x=y\/x∈N:=fun x a=>List.mem_cons.1 a
 have D:∀x,(x∈N\/x∈r.waits)->(x.kind=1\/x.kind=2\/x.kind=3)->x.core≠(i:Int):=fun x a z e=>by
  have E:=h.bd a;rcases a with a|a<;>rcases z with z|z|z<;>(have:=fR a z e E.1;omega)
 constructor
 case row=>exact h.row
 case ks=>exact h.ks
 case kg=>exact h.kg
 case told=>exact h.told
 case nc=>intro x a;rcases f x a with rfl|a;exact⟨I.2.2.1,by omega⟩;exact h.nc x a
 case ex=>have:=h.ex;grind
 case uB=>have:=h.uB;grind
 case t1=>intro j o;have p:=h.t1 j o;grind
 case t2=>
  intro j o
  have p:=h.t2 j o
  grind
 case t3=>intro j o;have p:=h.t3 j o;grind
 case t4=>intro j o;have p:=h.t4 j o;grind
 case a1=>intro j o;rw[s,K];exact h.a1 j o
 case a2=>intro j o p F;rw[K] at p;rw[s];by_cases e:j=i;(subst e;rw[U] at p;cases p);(rw[A j e] at F;exact h.a2 j o p F)
 case rq=>
  intro x a z
  have v:x∈N\/x∈r.waits:=a.imp (fun a=>(f x a).resolve_left (fun e=>by subst e;omega)) id
  have:=D x v (by omega)
  have E:=h.bd v
  rw[A _ (by omega)];exact h.rq x v z
 case rs=>intro b g k0;have:=Z.2.2.2.2.1;unfold zJ at this;rw[A _ (fun e=>by have:=h.row.core;grind)];exact h.rs b g k0
 case c1=>intro j o S T;rw[s];rw[B] at S T;exact h.c1 j o (by omega) (by omega)
 case c2=>simp only[s];exact h.c2
 case As=>simp only[s];intro j o p x a k;rcases f x a with rfl|a;omega;exact h.As j o p x a k
 case gN=>
  intro x a k
  rcases f x a with rfl|a
  .omega
  .have E:=h.nc x a;have Y:x.core≠(i:Int):=fun e=>by have:=fR a k e E.1;omega
   simp only[s]
   rw[A _ (by omega)];exact h.gN x a k
 case pN=>intro x a k;rcases f x a with rfl|a;omega;exact h.pN x a k
 case rN=>intro x a k;simp only[s];rcases f x a with rfl|a;omega;exact h.rN x a k
 case uN=>
  intro x a k
  have R:x=y\/(x∈N\/x∈r.waits):=by grind
  rcases R with rfl|a
  .rw[I.2.1,Int.toNat_natCast,ci];refine⟨I.2.2.2.1,fun p=>?_⟩;rw[I.2.2.2.2];unfold jF;simpa using p
  .have:=D x a (by omega);have E:=h.bd a;rw[A _ (by omega)];exact h.uN x a k
 case c3=>intro j o;rw[s,O];exact h.c3 j o
 case c5=>simp only[s];exact fun p F=>h.c5 p (fun x a=>F x (List.mem_cons_of_mem _ a))
 case k2=>exact h.k2
theorem Inv.wrote {i:Nat} {D:Ln} (h:Inv l r m V c N) (f:i<4) (v:(c i).st=2\/(c i).st=4):
  Inv l r m D (aS c i {c i with st:=4,d:=D}) N:=by
 have t:HH l r c N i=(c i).st:=by unfold HH uE;rw[aac]
 have o:HH l r c N i=2\/HH l r c N i=4:=by rw[t];exact v
 have K:=h.c2 i f o
 have z:∀j,j<4->HH l r c N j≠0->j=i:=fun j b e=>Classical.byContradiction fun s=>e (K j b s)
 have I:=h.As i f o
 have has:(c i).pB=false:=by cases e:(c i).pB with|false=>rfl|true=>have:=h.a1 i f e;omega
 have S:∀x∈N,x.kind≠8:=fun x a k=>by
  have p:=h.nc x a;obtain⟨j,b,q,u⟩:=fO p.2;have J:=h.gN x a k;by_cases e:x.state=1;grind;have B:=(J.2.2.2.1 e).2 i f;by_cases s:j=i;subst s;have:=h.t1 j b;rw[has] at this;have:=fR a k q p.1;simp at*;omega;grind
 have R:∀x∈N,x.kind=5->r.served.kind≠1:=fun x a k e=>by
  have p:=h.nc x a;obtain⟨j,b,q,u⟩:=fO p.2;have U:=((h.rN x a k).2.1 e);grind
 generalize hC:aS c i {c i with st:=4,d:=D}=c'
 have ci:c' i={c i with st:=4,d:=D}:=by rw[<-hC,fE]
 have A:∀j,j≠i->c' j=c j:=fun j e=>by rw[<-hC,cF e]
 have g:∀j,(c' j).pB=(c j).pB/\(c' j).aw=(c j).aw/\(c' j).gi=(c j).gi/\(c' j).gs=(c j).gs/\(c' j).gd=(c j).gd:=fun j=>by grind
 have y:HH l r c' N i=4:=by unfold HH;rw[ci];simp[uE]
 have T:∀j,j≠i->HH l r c' N j=HH l r c N j:=fun j e=>by unfold HH;rw[A j e]
 constructor
 case row=>exact h.row
 case ks=>exact h.ks
 case kg=>exact h.kg
 case told=>exact h.told
 case nc=>exact h.nc
 case ex=>have:=h.ex;grind
 case uB=>have:=h.uB;grind
 case t1=>intro j b;rw[(g j).1];exact h.t1 j b
 case t2=>intro j b;rw[(g j).2.2.1];exact h.t2 j b
 case t3=>exact h.t3
 case t4=>exact h.t4
 case a1=>grind
 case a2=>grind
 case rq=>intro x a k;rw[(g _).2.1];exact h.rq x a k
 case rs=>rw[(g _).2.1];exact h.rs
 case c1=>intro j b E F;have:=h.c1 j b E F;grind
 case c2=>
  grind
 case As=>grind
 case gN=>grind
 case pN=>exact h.pN
 case rN=>
  intro x a k
  have p:=h.nc x a
  have B:=h.rN x a k
  grind
 case uN=>intro x a k;rw[(g _).2.2.2.1,(g _).2.2.2.2];exact h.uN x a k
 case c3=>
  intro j b O
  by_cases e:j=i
  .subst e;rw[ci];unfold sP;simp
  grind
 case c5=>grind
 case k2=>exact h.k2
end
section
variable {l:Nat} {r:Row} {m V:Ln} {c:wh} {N:List aJ} {n:aJ}
theorem yK {r:Row} {x:Int}:∀(f i:Nat),(∀c,c∈r.fB x f i↔(i<=c/\c<i+f)/\r.holds x c=true)/\(r.fB x f i).Nodup/\(r.sW x f i= -1↔∀c,i<=c->c<i+f->r.holds x c=false):=by
 intro f;induction f with
 |zero=>intro i;refine⟨fun c=>?_,by simp[Row.fB],?_⟩;simp[Row.fB];omega;simp[Row.sW];omega
 |succ f a=>
  intro i;obtain⟨b,e,g⟩:=a (i+1);unfold Row.fB Row.sW;grind
theorem qQ {r:Row} {x:Int} {c:Nat}:c∈r.gC x↔c<4/\r.holds x c=true:=by
 have:=(yK (r:=r) (x:=x) 4 0).1 c;unfold Row.gC;grind
theorem K2 {r:Row} {x:Int}:(r.gC x).Nodup:=(yK 4 0).2.1
theorem Gk {r:Row} {x:Int}:r.first x= -1↔∀c:Nat,c<4->(c:Int)≠x->r.sh c=false/\(c:Int)≠r.owner:=by
 have:=(yK (r:=r) (x:=x) 4 0).2.2;unfold Row.first
 rw[this];unfold Row.holds;grind
theorem Inv.V1 (h:Inv l r m V c N) (a:r.granted=false):r.told=false:=by
 cases e:r.told with
 |false=>rfl
 |true=>have:=h.told e;grind
def Row.say (r:Row) (b:Bool) (d:Ln):Row:={r with told:=b,d0:=d.1,d1:=d.2}
theorem Inv.say {b:Bool} {d:Ln} (h:Inv l r m V c N) (a:r.granted=true):Inv l (Row.say r b d) m V c N:=by
 constructor;exact⟨h.row.core,h.row.owner,h.row.waits,h.row.apart,h.row.want,h.row.still,h.row.gb⟩;exact h.ks;exact h.kg;intro _;exact a;exact h.nc;exact h.ex;exact h.uB;exact h.t1;exact h.t2;exact h.t3;exact h.t4;exact h.a1;exact h.a2;exact h.rq;exact h.rs;exact h.c1;exact h.c2;exact h.As;exact h.gN;exact h.pN;exact h.rN;exact h.uN;exact h.c3;exact h.c5;exact h.k2
theorem Inv.aGg (h:Inv l r m V c N) (_hb:r.busy=true) (p:r.granted=false) (o:r.quiet=true) (q:r.served.kind=0):Inv l r.free m V c N:=by
 have a:=fun x b=>h.calm o (x:=x) b;have g:∀i,zJ r i=0/\zJ r.free i=0:=fun i=>by unfold zJ Row.free;simp[q]
 have j:∀i,wF r i=0/\wF r.free i=0:=fun i=>by unfold wF Row.free;simp[p]
 constructor;exact Bx h.row o;intro e;cases e;intro e;cases e;intro e;cases e;exact h.nc;exact h.ex;exact h.uB;intro i f;have:=h.t1 i f;rw[(g i).1] at this;rw[(g i).2];exact this;exact h.t2;exact h.t3;intro i f;have:=h.t4 i f;rw[(j i).1] at this;rw[(j i).2];exact this;exact h.a1;exact h.a2;exact h.rq;intro e;cases e;exact h.c1;exact h.c2;exact h.As;exact h.gN;exact fun x b k=>absurd k (a x b).2;exact fun x b k=>absurd k (a x b).1;exact h.uN;exact h.c3;exact h.c5;intro e;cases e
theorem Inv.eE {d:Ln} (h:Inv l r m V c N) (hb:r.busy=true) (y:r.granted=false) (I:r.quiet=true) (hk:r.served.kind=1\/r.served.kind=2)
  (hd:HH l r c N r.served.core.toNat=0->d=V) (t:r.served.kind=1->∀j,j<4->HH l r c N j≠2/\HH l r c N j≠4):
  Inv l (r.eE l d).1 m V c ((r.eE l d).2++N)/\(r.eE l d).1.granted=true:=by
 have S:=fun x f=>h.calm I (x:=x) f
 obtain⟨i,F,p,E⟩:∃i:Nat,i<4/\r.served.core=(i:Int)/\r.served.core.toNat=i:=⟨r.served.core.toNat,by have:=h.row.core;omega,by have:=h.row.core;omega,rfl⟩
 have a:=xJ (line:=l) (d:=d) (A6.mk h.row.core h.row.owner h.row.waits h.row.apart (h.row.want hb y) hb y) (by omega) I
 have z:zJ r i=1:=by unfold zJ;rw[aJ7 ⟨hb,y,by omega,p⟩]
 have has:(c i).pB=true:=by have:=h.t1 i F;cases f:(c i).pB<;>simp_all
 have hz:eX 8 i l N=0/\eX 9 i l N=0/\eX 4 i l N=0:=by
  have:=h.t1 i F;have O:=h.t4 i F;unfold wF at O;rw[y] at O;rw[z,has] at this;simp at this O;omega
 have g0:∀j,wF r j=0:=fun j=>by unfold wF;simp[y]
 have J:=h.rs hb y (by omega)
 rw[E] at J
 have e8:∀x∈N,x.kind≠8:=fun x f k=>by
  have hb:=h.nc x f;obtain⟨j,b,T,_⟩:=fO hb.2;exact h.no8 b (g0 j) f k T
 have R:∀j,j<4->(HH l r c N j=1↔r.sh j=true)/\(2<=HH l r c N j↔r.owner=(j:Int)):=fun j b=>h.c1 j b (by have:=h.t3 j b;rw[fZ I b] at this;simp at this;omega) (by have:=h.t4 j b;grind)
 have ζ:∀j,0<=HH l r c N j->HH l r c N j≠0->HH l r c N j=1\/2<=HH l r c N j:=fun j _ _=>by omega
 have ε:∀j,j<4->0<=HH l r c N j:=fun j b=>by have:=h.uB j b;unfold HH uE;grind
 rw[E] at hd
 have main:∀(g:Row) (st:Int),g={r with owner:=g.owner,sh:=g.sh,granted:=true}->oZ l g->(st=1\/st=2\/st=4)->(st=4↔(c i).aw=true)->
   (st=1->g.sh i=true/\HH l r c N i=0/\∀j,j<4->HH l r c N j≠2/\HH l r c N j≠4)->
   (st≠1->g.owner=(i:Int)/\∀j:Nat,j<4->g.sh j=false/\((j:Int)≠(i:Int)->HH l r c N j=0))->(st=2->HH l r c N i=0)->
   (∀j:Nat,j<4->j≠i->(g.sh j=r.sh j)/\(g.owner=(j:Int)↔r.owner=(j:Int)))->
   Inv l g m V c (r.jW l st d::N):=by
  intro g st er a α q X Y Z γ
  have u:(r.jW l st d).kind=8/\(r.jW l st d).core=(i:Int)/\(r.jW l st d).line=l:=⟨rfl,p,rfl⟩
  have A:∀k j,eX k j l (r.jW l st d::N)=eX k j l N+if k=8/\j=i then 1 else 0:=fun k j=>by
   rw[cY];congr 1;simp only[u];grind
  have v:g.waits=r.waits/\g.busy=true/\g.granted=true/\g.asked=r.asked/\g.told=r.told/\g.served=r.served:=by grind
  have B:∀j,HH l g c (r.jW l st d::N) j=HH l r c N j:=fun j=>by unfold HH pd;rw[A,aaa,v.1];rfl
  have es:∀j,zJ g j=0:=fun j=>by unfold zJ;rw[v.2.2.1];simp
  have o:∀x,x∈r.jW l st d::N->x=r.jW l st d\/x∈N:=fun x f=>List.mem_cons.1 f
  constructor
  case row=>exact a
  case ks=>grind
  case kg=>grind
  case told=>grind
  case nc=>intro x f;rcases o x f with rfl|f;exact⟨u.2.2,by rw[u.2.1];omega⟩;exact h.nc x f
  case ex=>exact h.ex
  case uB=>exact h.uB
  case t1=>
   intro j b
   have t:=h.t1 j b
   simp only[A,es,v.1]
   by_cases e:j=i
   .subst e;rw[z] at t;simp only[and_self,if_true,Int.reduceEq,false_and,if_false];simp;omega
   .have:zJ r j=0:=by unfold zJ;rw[aaa]
    simp[e];omega
  case t2=>intro j b;have t:=h.t2 j b;grind
  case t3=>intro j b;have t:=h.t3 j b;simp only[A,v.2.2.2.1];simp;exact t
  case t4=>
   intro j b
   have t:=h.t4 j b
   rw[g0] at t
   have η:wF g j=if j=i then 1 else 0:=by
    unfold wF;rw[v.2.2.1,v.2.2.2.2.2];by_cases e:j=i;grind;rw[aJ6 (fun K=>e (by omega)),aJ6 e]
   grind
  case a1=>simp only[B];exact h.a1
  case a2=>simp only[B];exact h.a2
  case rq=>rw[v.1];intro x f k1;exact h.rq x (f.imp (fun f=>(o x f).resolve_left (fun e=>by grind)) id) k1
  case rs=>grind
  case c1=>
   grind
  case c2=>grind
  case As=>grind
  case gN=>
   intro x f k
   rcases o x f with rfl|f
   .simp only[B];rw[u.2.1,Int.toNat_natCast];exact⟨α,q,X,Y,Z,hd⟩
   grind
  case pN=>grind
  case rN=>grind
  case uN=>rw[v.1];intro x f k;exact h.uN x (f.imp (fun f=>(o x f).resolve_left (fun e=>by grind)) id) k
  case c3=>simp only[B];exact h.c3
  case c5=>simp only[B];exact fun t h2=>h.c5 t (fun x f=>h2 x (List.mem_cons_of_mem _ f))
  case k2=>grind
 unfold Row.eE at a ⊢
 by_cases k2:r.served.kind=2
 .rw[aJ7 k2] at a ⊢;refine⟨main _ 4 rfl a (by omega) (by grind) (by omega) ?_ (by omega) ?_,rfl⟩
  .intro _;refine⟨p,fun j b=>⟨rfl,fun e=>Classical.byContradiction fun e0=>?_⟩⟩;have s:=h.k2 hb y (by omega) j b (fun _=>by rw[p];exact e);rw[fZ I b] at s;grind
  .intro j b e;have s:=h.k2 hb y (by omega) j b (fun _=>by rw[p];omega);rw[fZ I b] at s;constructor
   .show false=r.sh j;cases f:r.sh j with
    |false=>rfl
    |true=>have:=s (.inl f);cases this
   .show r.served.core=(j:Int)↔r.owner=(j:Int);constructor
    .intro K;omega
    .intro K;have:=s (.inr K);cases this
 .rw[aJ6 k2] at a ⊢;have k1:r.served.kind=1:=by omega
  have q:(c i).aw=false:=by cases e:(c i).aw with|false=>rfl|true=>have:=J.2 e;omega
  have h0:=h.a2 i F has q
  have β:=R i F
  have δ:r.sh i=false:=by grind
  by_cases U:r.first r.served.core= -1
  .rw[aJ7 U] at a ⊢;have W:=Gk.1 U;have D:∀j,j<4->HH l r c N j=0:=fun j b=>by
    grind
   refine⟨main _ 2 rfl a (by omega) (by rw[q];simp) (by omega) ?_ (fun _=>h0) ?_,rfl⟩
   .intro _;refine⟨p,fun j b=>⟨?_,fun _=>D j b⟩⟩;show gO r.sh r.served.core false j=false;unfold gO;grind
   .intro j b e;have:=W j b (by omega);constructor
    .show gO r.sh r.served.core false j=r.sh j;unfold gO;grind
    grind
  .rw[aJ6 U] at a ⊢;refine⟨main _ 1 rfl a (by omega) (by rw[q];simp) ?_ (fun e=>absurd rfl e) (by omega) ?_,rfl⟩
   .intro _;refine⟨?_,h0,t k1⟩;show gO r.sh r.served.core true i=true;unfold gO;grind
   .intro j b e;constructor
    .show gO r.sh r.served.core true j=r.sh j;unfold gO;grind
    .exact Iff.rfl
end
section
variable {l:Nat} {r:Row} {m V:Ln} {c:wh} {N:List aJ} {n:aJ}
theorem Inv.cx {i:Nat} (h:Inv l r m V c (n::N)) (j:n.kind=5) (b:i<4) (a:n.core=(i:Int)):
  r.asked i=true/\r.granted=false/\r.busy=true/\eX 5 i l N=0/\eX 11 i l N=0:=by
 have f:=h.nc n (by simp)
 have o:r.asked i=true:=by
  have:=h.t3 i b;rw[cY (k:=5),aJ7 ⟨j,a,f.1⟩] at this;grind
 have g:r.granted=false:=by
  cases g:r.granted with
  |false=>rfl
  |true=>have:=fZ (h.row.still (.inl g)) b;grind
 have e:r.busy=true:=by
  cases e:r.busy with
  |true=>rfl
  |false=>have:=fZ (h.row.still (.inr e)) b;grind
 have:=h.t3 i b
 rw[cY (k:=5),aJ7 ⟨j,a,f.1⟩,cY (k:=11),aaa,o] at this
 grind
theorem Inv.heard {r':Row} {I:Ln} {i:Nat} (h:Inv l r m V c (n::N)) (E:n.kind=5) (R:i<4) (u:n.core=(i:Int))
  (U:r'={r with owner:=r'.owner,sh:=r'.sh,asked:=gO r.asked n.core false}) (y:A6 l r')
  (b:∀j:Nat,j<4->j≠i->(r'.sh j=r.sh j)/\(r'.owner=(j:Int)↔r.owner=(j:Int)))
  (o:(HH l r c (n::N) i=1↔r'.sh i=true)/\(2<=HH l r c (n::N) i↔r'.owner=(i:Int)))
  (S:(∀j,j<4->HH l r c (n::N) j≠3/\HH l r c (n::N) j≠4)->(∀x∈N,x.kind=5->x.jU=false)->I=V):Inv l r' I V c N:=by
 obtain⟨Y,D,t,O,K⟩:=h.cx E R u
 have Z:=h.nc n (by simp)
 have J:∀k j,eX k j l (n::N)=eX k j l N+if k=5/\j=i then 1 else 0:=fun k j=>by
  rw[cY];grind
 have em:∀x,x∈N->x∈n::N:=fun x a=>List.mem_cons_of_mem _ a
 have g:r'.waits=r.waits/\r'.busy=true/\r'.granted=false/\r'.asked=gO r.asked n.core false/\r'.told=r.told/\r'.served=r.served:=by grind
 have p:∀j,HH l r' c N j=HH l r c (n::N) j:=fun j=>by unfold HH pd;rw[J,aaa,g.1];rfl
 have A:∀j,r'.asked j=if j=i then false else r.asked j:=fun j=>by rw[g.2.2.2.1];unfold gO;grind
 have v:∀x∈N,x.kind=5\/x.kind=11->x.core≠(i:Int):=fun x a k e=>by
  rcases k with k|k<;>(have:=fR a k e (h.nc x (em x a)).1;omega)
 have g0:∀j,wF r j=0/\wF r' j=0:=fun j=>by unfold wF;grind
 have T:∀x∈N,x.kind≠8:=fun x a k=>by
  have t:=h.nc x (em x a);obtain⟨j,f,B,_⟩:=fO t.2;exact h.no8 f (g0 j).1 (em x a) k B
 have W:∀j,zJ r' j=zJ r j:=fun j=>by unfold zJ;grind
 constructor
 case row=>exact y.jq
 case ks=>rw[g.2.2.2.2.2];exact fun _=>h.ks t
 case kg=>grind
 case told=>rw[g.2.2.2.2.1,h.V1 D];intro e;cases e
 case nc=>exact fun x a=>h.nc x (em x a)
 case ex=>exact h.ex
 case uB=>exact h.uB
 case t1=>intro j f;have s:=h.t1 j f;grind
 case t2=>intro j f;have s:=h.t2 j f;grind
 case t3=>
  intro j f
  have s:=h.t3 j f
  grind
 case t4=>intro j f;have s:=h.t4 j f;grind
 case a1=>simp only[p];exact h.a1
 case a2=>simp only[p];exact h.a2
 case rq=>rw[g.1];exact fun x a=>h.rq x (a.imp (em x) id)
 case rs=>rw[g.2.2.2.2.2];exact fun _ _=>h.rs t D
 case c1=>
  intro j f O X
  rw[p]
  by_cases e:j=i
  .subst e;exact o
  .rw[(b j f e).1,(b j f e).2];exact h.c1 j f (by grind) (by grind)
 case c2=>simp only[p];exact h.c2
 case As=>simp only[p];exact fun j f q x a=>h.As j f q x (em x a)
 case gN=>grind
 case pN=>
  intro x a k
  have t:=h.nc x (em x a)
  have s:=h.pN x (em x a) k
  have q:=b x.core.toNat (by omega) (fun e=>v x a (.inr k) (by omega))
  rw[g.2.2.2.2.2,q.1]
  have z:((x.core.toNat:Nat):Int)=x.core:=by omega
  rw[z] at q
  rw[q.2];exact s
 case rN=>
  intro x a k
  have t:=h.nc x (em x a)
  have s:=h.rN x (em x a) k
  have q:=b x.core.toNat (by omega) (fun e=>v x a (.inl k) (by omega))
  have z:((x.core.toNat:Nat):Int)=x.core:=by omega
  rw[z] at q
  rw[g.2.2.2.2.2,p,q.2];exact s
 case uN=>rw[g.1];exact fun x a=>h.uN x (a.imp (em x) id)
 case c3=>simp only[p];exact h.c3
 case c5=>simp only[p];exact S
 case k2=>
  rw[g.2.2.2.2.2]
  intro _ _ k j f a uE
  rw[A]
  by_cases e:j=i
  .subst e;exfalso;have F:=(h.rN n (by simp) E).1 k;rw[u,Int.toNat_natCast] at F;rw[F] at o;rcases uE with uE|uE
   .have:=o.1.2 uE;omega
   .have:=o.2.2 uE;omega
  .rw[aJ6 e];refine h.k2 t D k j f a ?_;rw[(b j f e).1,(b j f e).2] at uE;exact uE
theorem Inv.mW (h:Inv l r m V c (n::N)) (R:n.kind=5):
  r.asked n.core.toNat=true/\Inv l (mA.mW (r,m) l n).1.1 (mA.mW (r,m) l n).1.2 V c ((mA.mW (r,m) l n).2++N):=by
 have hc:=h.nc n (by simp)
 obtain⟨i,O,z,D⟩:=fO hc.2
 obtain⟨ha,I,F,h5,θ⟩:=h.cx R O z
 refine⟨by rw[D];exact ha,?_⟩
 have S:=Dk h.row hc.2 (by rw[D];exact ha)
 have ht:=h.V1 I
 have A:=h.rN n (by simp) R
 rw[D] at A
 have ι:∀j,j<4->0<=HH l r c (n::N) j:=fun j a=>by have:=h.uB j a;unfold HH uE;split<;>(try split)<;>omega
 have μ:∀(s:Row) (m1:Ln),Inv l s m1 V c N->s.busy=true->s.granted=false->s.quiet=true->s.served=r.served->(∀j,HH l s c N j=HH l r c (n::N) j)->
   ∀j,j<4->(HH l r c (n::N) j=1↔s.sh j=true)/\(2<=HH l r c (n::N) j↔s.owner=(j:Int)):=fun s m1 E b1 g1 q1 _ X j a=>by
  rw[<-X]
  exact E.c1 j a (by have:=E.t3 j a;rw[fZ q1 a] at this;simp at this;omega) (by have:=E.t4 j a;unfold wF at this;rw[g1] at this;simp at this;omega)
 unfold mA.mW
 simp only
 by_cases B:r.served.kind=1
 .have hr:=A.2.1 B;have hq:∀s:Row,s.asked=gO r.asked n.core false->s.quiet=true:=fun s e=>by
   have U:∀j:Nat,j<4->s.asked j=false:=fun j a=>by
    rw[e];unfold gO;by_cases ej:(j:Int)=n.core;rw[aJ7 ej];rw[aJ6 ej];cases v:r.asked j with
    |false=>rfl
    |true=>
     have J:=h.t3 j a;rw[v] at J;simp at J;exfalso;by_cases hp:eX 11 j l (n::N)=0;obtain⟨x,v,k,ex,_⟩:=Ii (k:=5) (i:=j) (l:=l) (N:=n::N) (by omega);have:=((h.rN x v k).2.1 B).1;omega;obtain⟨x,v,k,ex,_⟩:=Ii (Nat.pos_of_ne_zero hp);have:=(h.pN x v k).2.2 B;omega
   unfold Row.quiet;rw[U 0 (by omega),U 1 (by omega),U 2 (by omega),U 3 (by omega)];rfl
  have δ:r.vJ m n=m:=by unfold Row.vJ;rw[aJ6 (fun e=>e.1 B)]
  rw[δ]
  rcases hr.2.2 with E|J
  .have f:r.heard n=(r.eY n).Dg n:=by unfold Row.heard;rw[aJ6 (fun e=>e B),aac,aJ6 (by rw[E.2];simp)]
   have p:HH l r c (n::N) i=1:=by grind
   have g:Inv l (r.heard n) m V c N:=by
    refine h.heard R O z (by rw[f];rfl) S (fun j a e=>?_) ?_ (fun y Z=>?_);rw[f];constructor;show gO r.sh n.core (valid n.state) j=r.sh j;unfold gO;grind;show(-1:Int)=(j:Int)↔r.owner=(j:Int);grind;rw[f,p];constructor;show _↔gO r.sh n.core (valid n.state) i=true;unfold gO;rw[aac,E.1];simp[valid];show _↔(-1:Int)=(i:Int);grind;exact h.c5 y (fun x v k=>by grind)
   have b:=hq (r.heard n) (by rw[f];rfl)
   have t:(r.heard n).busy=true:=by rw[f];exact F
   have q:(r.heard n).granted=false:=by rw[f];exact I
   have u:(r.heard n).served=r.served:=by rw[f];rfl
   have κ:(r.heard n).owner= -1:=by rw[f];rfl
   have ε:∀j,j<4->¬2<=HH l (r.heard n) c N j:=fun j a e=>by have:=g.own a e;grind
   unfold Row.rest
   rw[aJ7 b,u,aaa]
   have o:(r.heard n).sP m=m:=by unfold Row.sP;rw[aJ6];rw[g.V1 q];simp
   rw[o]
   exact(g.eE t q b (by grind) (fun _=>g.c5 (fun j a=>by grind) (fun x v k=>absurd k (g.calm b v).1)) (fun _ j a=>by have:=ε j a;omega)).1
  .have f:r.heard n=(r.eY n).lC n:=by unfold Row.heard;rw[aJ6 (fun e=>e B),aaa,aJ7 J.2]
   have p:HH l r c (n::N) i=3:=by grind
   have ζ:r.owner=(i:Int):=by omega
   have γ:A6 l (r.eY n):=⟨h.row.core,h.row.owner,h.row.waits,h.row.apart,h.row.want F I,F,I⟩
   have g:Inv l (r.eY n) m V c N:=by
    refine h.heard R O z rfl γ (fun j a e=>⟨rfl,Iff.rfl⟩) ?_ (fun y _=>by grind);rw[p];constructor;constructor;intro e;omega;intro e;have:=h.row.apart i O e;omega;exact⟨fun _=>ζ,fun _=>by omega⟩
   have b:=hq (r.eY n) rfl
   have T:=hq (r.heard n) (by rw[f];rfl)
   have K:=g.eE (d:=(n.d0,n.d1)) F I b (.inl B) (fun _=>A.2.2 J.2) (fun _ j a=>by
    by_cases e:j=i;rw[e];unfold HH pd at p ⊢;rw[cY,aaa] at p;show uE (c i) (eX 3 i l N+eX 3 i l r.waits)≠2/\uE (c i) (eX 3 i l N+eX 3 i l r.waits)≠4;grind;have:¬2<=HH l (r.eY n) c N j:=fun Y=>by have:=g.own a Y;have:r.owner=(j:Int):=this;omega
    omega)
   unfold Row.rest
   rw[aJ7 T,f,aJ6 (by show ¬r.served.kind=0;omega)]
   have o:((r.eY n).lC n).sP m=(n.d0,n.d1):=by rfl
   rw[o]
   have α:((r.eY n).lC n).eE l (n.d0,n.d1)=(Row.say ((r.eY n).eE l (n.d0,n.d1)).1 true (n.d0,n.d1),((r.eY n).eE l (n.d0,n.d1)).2):=by
    unfold Row.eE;have X:((r.eY n).lC n).served.kind=(r.eY n).served.kind:=rfl;have Y:((r.eY n).lC n).first ((r.eY n).lC n).served.core=(r.eY n).first (r.eY n).served.core:=rfl
    rw[X,Y];split;rfl;split<;>rfl
   rw[α]
   exact K.1.say K.2
 .have p:=A.1 B;have f:r.heard n=(r.eY n).leave n.core:=by unfold Row.heard;rw[aJ7 B]
  have g:Inv l (r.heard n) (r.vJ m n) V c N:=by
   refine h.heard R O z (by rw[f];rfl) S (fun j a e=>?_) ?_ (fun y Z=>?_);rw[f];constructor;show gO r.sh n.core false j=r.sh j;unfold gO;grind;show(if r.owner=n.core then(-1:Int) else r.owner)=(j:Int)↔r.owner=(j:Int);grind;rw[f,p];constructor;show _↔gO r.sh n.core false i=true;unfold gO;grind;show _↔(if r.owner=n.core then(-1:Int) else r.owner)=(i:Int);grind;unfold Row.vJ;by_cases hd:n.jU=true;grind;rw[aJ6 (fun e=>hd e.2)];exact h.c5 y (fun x v k=>by grind)
  have t:(r.heard n).busy=true:=by rw[f];exact F
  have q:(r.heard n).granted=false:=by rw[f];exact I
  have u:(r.heard n).served=r.served:=by rw[f];rfl
  have ν:=h.ks F
  unfold Row.rest
  by_cases b:(r.heard n).quiet=true
  .rw[aJ7 b];by_cases W:(r.heard n).served.kind=0
   .rw[aJ7 W];exact g.aGg t q b W
   .rw[aJ6 W];rw[u] at W;have k2:r.served.kind=2:=by omega
    have o:(r.heard n).sP (r.vJ m n)=r.vJ m n:=by unfold Row.sP;rw[aJ6];rw[g.V1 q];simp
    rw[o]
    have η:=fun j a=>g.c1 j a (by have:=g.t3 j a;rw[fZ b a] at this;simp at this;omega) (by have:=g.t4 j a;unfold wF at this;grind)
    refine(g.eE t q b (by grind) (fun h0=>g.c5 (fun j a=>?_) (fun x v k=>absurd k (g.calm b v).1)) (fun e=>by rw[u] at e;omega)).1
    by_cases e:(j:Int)=(r.heard n).served.core
    .grind
    .have β:=g.k2 t q (by rw[u];omega) j a (fun _=>e);rw[fZ b a] at β;grind
  grind
end
section
variable {l:Nat} {r:Row} {m V:Ln} {c:wh} {N:List aJ} {n:aJ}
theorem Wm {S:List Nat} {st k:Int} {i:Nat} (h:S.Nodup):eX k i l (eG l st S)=if k=11/\i∈S then 1 else 0:=by
 induction S with
 |nil=>simp[eG,eX]
 |cons a S e=>
  have b:=List.nodup_cons.1 h;show eX k i l (_::eG l st S)=_;rw[cY,e b.2];grind
theorem Inv.idle (h:Inv l r m V c N) (hb:r.busy=false):r.quiet=true/\r.granted=false/\r.told=false:=by
 have a:r.granted=false:=by cases e:r.granted with|false=>rfl|true=>have:=h.row.gb e;rw[hb] at this;cases this
 exact⟨h.row.still (.inr hb),a,h.V1 a⟩
theorem Inv.Kh {r':Row} {S:List Nat} {w:List aJ} {st:Int} (h:Inv l r m V c N) (hb:r.busy=false) (I:r.waits=n::w) (hk:n.kind=0\/n.kind=1\/n.kind=2)
  (W:S.Nodup) (X:∀j∈S,j<4/\(r.sh j=true\/r.owner=(j:Int)))
  (K:n.kind≠1->∀j:Nat,j<4->(n.kind=2->(j:Int)≠n.core)->r.sh j=true\/r.owner=(j:Int)->j∈S)
  (e:n.kind=1->∀j∈S,r.owner=(j:Int)) (F:st=if n.kind=1 then 1 else 0)
  (f:r'.owner=r.owner/\r'.sh=r.sh/\r'.waits=w/\r'.busy=true/\r'.served=n/\r'.granted=false/\r'.told=false) (e2:∀j,j<4->r'.asked j=decide (j∈S)):
  Inv l r' m V c (eG l st S++N):=by
 obtain⟨D,hg,ht⟩:=h.idle hb
 have q:=h.row.waits n (by rw[I];simp)
 obtain⟨i,O,v,z⟩:=fO q.2.1
 have u:=fun x a=>h.calm D (x:=x) a
 have s:∀k j,eX k j l r.waits=eX k j l w+if n.kind=k/\j=i then 1 else 0:=fun k j=>by
  rw[I,cY];congr 1;simp only[v,q.1];grind
 have p:∀k j,eX k j l (eG l st S++N)=(if k=11/\j∈S then 1 else 0)+eX k j l N:=fun k j=>by rw[C3,Wm W]
 have o:∀j,HH l r' c (eG l st S++N) j=HH l r c N j:=fun j=>by
  unfold HH pd;rw[s,p,f.2.2.1,aaa,aaa];simp
 have B:∀x∈eG l st S,x.kind=11/\x.line=l/\x.state=st/\∃j∈S,x.core=(j:Int):=fun x a=>by
  unfold eG at a;grind
 have g0:∀j,wF r j=0/\wF r' j=0:=fun j=>by unfold wF;grind
 have e8:∀x∈N,x.kind≠8:=fun x a k=>by
  have hb:=h.nc x a;obtain⟨j,b,y,_⟩:=fO hb.2;exact h.no8 b (g0 j).1 a k y
 have s0:∀j,zJ r j=0:=fun j=>by unfold zJ;rw[hb];simp
 have s1:∀j,zJ r' j=if n.kind≠0/\j=i then 1 else 0:=fun j=>by
  unfold zJ;grind
 have g:∀x,x∈eG l st S++N->x∈eG l st S\/x∈N:=fun x a=>List.mem_append.1 a
 have A:∀x,x∈w->x∈r.waits:=fun x a=>by grind
 have Y:∀j,j<4->(HH l r c N j=1↔r.sh j=true)/\(2<=HH l r c N j↔r.owner=(j:Int)):=fun j b=>h.c1 j b (by have:=h.t3 j b;rw[fZ D b] at this;simp at this;omega) (by have:=h.t4 j b;rw[(g0 j).1] at this;omega)
 have E:=h.rq n (.inr (by rw[I];simp))
 rw[z] at E
 have J:n.kind=0\/n.kind=2\/r.owner≠n.core:=by
  by_cases Z:n.kind=1;right;right;intro eo;have has:(c i).pB=true:=by
   have:=h.t1 i O;rw[s 1,aJ7 ⟨Z,rfl⟩] at this;cases a:(c i).pB<;>simp_all
  have t:(c i).aw=false:=by grind
  have:=h.a2 i O has t;grind;omega
 constructor
 case row=>
  refine A6.jq ⟨?_,?_,?_,?_,?_,f.2.2.2.1,f.2.2.2.2.2.1⟩
  .grind
  .rw[f.1];exact h.row.owner
  .rw[f.2.2.1];exact fun x a=>h.row.waits x (A x a)
  .grind
  grind
 case ks=>grind
 case kg=>grind
 case told=>grind
 case nc=>
  intro x a;rcases g x a with a|a
  .grind
  .exact h.nc x a
 case ex=>exact h.ex
 case uB=>exact h.uB
 case t1=>
  intro j b
  have e:=h.t1 j b
  simp only[s,s0] at e
  rw[s1,f.2.2.1]
  grind
 case t2=>intro j b;have e:=h.t2 j b;rw[s,aaa] at e;grind
 case t3=>
  intro j b
  have e:=h.t3 j b
  rw[fZ D b] at e
  simp at e
  rw[e2 j b]
  simp only[p,e]
  grind
 case t4=>intro j b;have e:=h.t4 j b;grind
 case a1=>simp only[o];exact h.a1
 case a2=>simp only[o];exact h.a2
 case rq=>
  intro x a k
  refine h.rq x ?_ k
  grind
 case rs=>grind
 case c1=>grind
 case c2=>simp only[o];exact h.c2
 case As=>grind
 case gN=>grind
 case pN=>
  intro x a k
  rcases g x a with a|a
  .obtain⟨_,_,T,j,b,U⟩:=B x a;rw[f.1,f.2.1,f.2.2.2.2.1,T,F,U,Int.toNat_natCast];grind
  grind
 case rN=>grind
 case uN=>
  intro x a k
  refine h.uN x ?_ k
  grind
 case c3=>simp only[o];exact h.c3
 case c5=>simp only[o];exact fun e R=>h.c5 e (fun x a=>R x (List.mem_append.2 (.inr a)))
 grind
theorem Inv.aFn {w:List aJ} (h:Inv l r m V c N) (A:r.waits=n::w) (I:n.kind=1\/n.kind=2):Inv l (r.next w) m V c (mP 9 n.core l::N):=by
 have s:=h.row.waits n (by rw[A];simp);obtain⟨i,F,z,D⟩:=fO s.2.1;have t:∀k j,eX k j l r.waits=eX k j l w+if n.kind=k/\j=i then 1 else 0:=fun k j=>by
  rw[A,cY];grind
 have o:∀k j,eX k j l (mP 9 n.core l::N)=eX k j l N+if k=9/\j=i then 1 else 0:=fun k j=>by
  rw[cY];congr 1;simp only[mP,z];grind
 have g:∀j,HH l (r.next w) c (mP 9 n.core l::N) j=HH l r c N j:=fun j=>by
  unfold HH pd;rw[t,o,aaa,aaa];rfl
 have b:∀x,x∈mP 9 n.core l::N->x=mP 9 n.core l\/x∈N:=fun x a=>List.mem_cons.1 a;have q:∀x,x∈w->x∈r.waits:=fun x a=>by grind
 have E:∀x,x=mP 9 n.core l->x.kind=9:=fun x e=>by rw[e];rfl
 constructor;exact Bt h.row A;exact h.ks;exact h.kg;exact h.told;intro x a;rcases b x a with rfl|a;exact⟨rfl,s.2.1⟩;exact h.nc x a;exact h.ex;exact h.uB;intro j f;have p:=h.t1 j f;have B:zJ (r.next w) j=zJ r j:=rfl;rw[B];simp only[t,o] at p ⊢;rw[show(r.next w).waits=w from rfl];grind;intro j f;have p:=h.t2 j f;rw[t,aaa] at p;rw[show(r.next w).waits=w from rfl];grind;intro j f;have p:_=((r.next w).asked j).toNat:=h.t3 j f;grind;intro j f;have p:_=wF (r.next w) j:=h.t4 j f;grind;simp only[g];exact h.a1;simp only[g];exact h.a2;intro x a k;exact h.rq x (a.elim (fun a=> .inl ((b x a).resolve_left (fun e=>by grind))) (fun a=> .inr (q x a))) k;exact h.rs;intro j f v y;rw[g];simp only[o] at v y;simp at v y;exact h.c1 j f v y;simp only[g];exact h.c2;simp only[g];intro j f u x a k;rcases b x a with rfl|a;cases k;exact h.As j f u x a k;simp only[g];intro x a k;rcases b x a with rfl|a;cases k;exact h.gN x a k;intro x a k;rcases b x a with rfl|a;cases k;exact h.pN x a k;simp only[g];intro x a k;rcases b x a with rfl|a;cases k;exact h.rN x a k;intro x a k;exact h.uN x (a.elim (fun a=> .inl ((b x a).resolve_left (fun e=>by grind))) (fun a=> .inr (q x a))) k;simp only[g];exact h.c3;simp only[g];exact fun p u=>h.c5 p (fun x a=>u x (List.mem_cons_of_mem _ a));exact h.k2
theorem Inv.aGs {w:List aJ} (h:Inv l r m V c N) (o:r.waits=n::w) (q:n.kind=0):Inv l (r.next w) m V c N:=by
 have f:∀k j,k≠0->eX k j l r.waits=eX k j l w:=fun k j p=>by
  rw[o,cY,aaa];rfl
 have a:∀j,HH l (r.next w) c N j=HH l r c N j:=fun j=>by unfold HH pd;rw[f 3 j (by omega)];rfl
 have e:∀x,x∈w->x∈r.waits:=fun x g=>by grind
 constructor;exact Bt h.row o;exact h.ks;exact h.kg;exact h.told;exact h.nc;exact h.ex;exact h.uB;intro j i;have b:=h.t1 j i;rw[f 1 j (by omega),f 2 j (by omega)] at b;exact b;intro j i;have b:=h.t2 j i;rw[f 3 j (by omega)] at b;exact b;exact h.t3;exact h.t4;simp only[a];exact h.a1;simp only[a];exact h.a2;exact fun x g=>h.rq x (g.imp id (e x));exact h.rs;simp only[a];exact h.c1;simp only[a];exact h.c2;simp only[a];exact h.As;simp only[a];exact h.gN;exact h.pN;simp only[a];exact h.rN;exact fun x g=>h.uN x (g.imp id (e x));simp only[a];exact h.c3;simp only[a];exact h.c5;exact h.k2
theorem Inv.aAb (h:Inv l r m V c N):Inv l (r.wait (mS l)) m V c N:=by
 have g:∀k j,k≠0->eX k j l (r.wait (mS l)).waits=eX k j l r.waits:=fun k j o=>by
  show eX k j l (r.waits++[mS l])=_;rw[C3,cY,Y6,aJ6 (by simp[mS,aJ.zero];omega)];rfl
 have b:∀j,HH l (r.wait (mS l)) c N j=HH l r c N j:=fun j=>by unfold HH pd;grind
 have e:∀x,x∈(r.wait (mS l)).waits->x.kind≠0->x∈r.waits:=fun x a k=>by
  have a:x∈r.waits++[mS l]:=a;rcases List.mem_append.1 a with a|a;exact a;rw[List.mem_singleton.1 a] at k;exact absurd rfl k
 constructor;exact By h.row rfl ⟨by show(0:Int)<=0;omega,by show(0:Int)<4;omega⟩ (.inl rfl);exact h.ks;exact h.kg;exact h.told;exact h.nc;exact h.ex;exact h.uB;intro j f;have i:=h.t1 j f;rw[g 1 j (by omega),g 2 j (by omega)];exact i;intro j f;have i:=h.t2 j f;grind;exact h.t3;exact h.t4;simp only[b];exact h.a1;simp only[b];exact h.a2;exact fun x a k=>h.rq x (a.imp id (fun a=>e x a (by omega))) k;exact h.rs;simp only[b];exact h.c1;simp only[b];exact h.c2;simp only[b];exact h.As;simp only[b];exact h.gN;exact h.pN;simp only[b];exact h.rN;exact fun x a k=>h.uN x (a.imp id (fun a=>e x a (by omega))) k;simp only[b];exact h.c3;simp only[b];exact h.c5;exact h.k2
theorem Inv.vc {w:List aJ} (h:Inv l r m V c N) (hb:r.busy=false) (D:r.waits=n::w) (U:n.kind=3):
  Inv l ((r.next w).leave n.core) (if r.owner=n.core/\n.jU=true then(n.d0,n.d1) else m) V c (mP 10 n.core l::N):=by
 obtain⟨W,hg,ht⟩:=h.idle hb
 have s:=h.row.waits n (by rw[D];simp)
 obtain⟨i,B,v,K⟩:=fO s.2.1
 have g:=fun x a=>h.calm W (x:=x) a
 have t:∀k j,eX k j l r.waits=eX k j l w+if k=3/\j=i then 1 else 0:=fun k j=>by
  rw[D,cY];congr 1;simp only[v,s.1,U];grind
 have p:∀k j,eX k j l (mP 10 n.core l::N)=eX k j l N+if k=10/\j=i then 1 else 0:=fun k j=>by
  rw[cY];congr 1;simp only[mP,v];grind
 have g0:∀j,wF r j=0/\wF ((r.next w).leave n.core) j=0:=fun j=>⟨by unfold wF;rw[hg];simp,by unfold wF;rw[aJ6];intro e;have:r.granted=true:=e.1;grind⟩
 have e8:∀x∈N,x.kind≠8:=fun x a k=>by
  have hb:=h.nc x a;obtain⟨j,f,J,_⟩:=fO hb.2;exact h.no8 f (g0 j).1 a k J
 have u:∀j,j<4->(HH l r c N j=1↔r.sh j=true)/\(2<=HH l r c N j↔r.owner=(j:Int)):=fun j f=>h.c1 j f (by have:=h.t3 j f;rw[fZ W f] at this;simp at this;omega) (by have:=h.t4 j f;grind)
 have X:(c i).gi=true/\eX 3 i l N=0/\eX 3 i l w=0/\eX 10 i l N=0:=by
  have:=h.t2 i B;rw[t,aJ7 ⟨rfl,rfl⟩] at this;cases a:(c i).gi with
  |false=>grind
  |true=>grind
 have z:(c i).st=0/\(c i).pB=false:=by
  have:=h.ex i B;rw[X.1] at this;constructor;grind;grind
 have R:HH l r c N i=(c i).gs:=by
  unfold HH uE pd;rw[t,z.1,X.1];simp
 have F:HH l ((r.next w).leave n.core) c (mP 10 n.core l::N) i=0:=by
  unfold HH uE;have:pd l ((r.next w).leave n.core) (mP 10 n.core l::N) i=0:=by
   unfold pd;rw[p];show _+eX 3 i l w=0;grind
  grind
 have Z:∀j,j≠i->HH l ((r.next w).leave n.core) c (mP 10 n.core l::N) j=HH l r c N j:=fun j e=>by
  unfold HH;have:pd l ((r.next w).leave n.core) (mP 10 n.core l::N) j=pd l r N j:=by
   unfold pd;rw[p,t];show _+eX 3 j l w=_;simp[e]
  rw[this]
 have hle:∀j,j<4->HH l ((r.next w).leave n.core) c (mP 10 n.core l::N) j=HH l r c N j\/(j=i/\HH l ((r.next w).leave n.core) c (mP 10 n.core l::N) j=0):=fun j _=>by
  grind
 have o:∀x,x∈mP 10 n.core l::N->x=mP 10 n.core l\/x∈N:=fun x a=>List.mem_cons.1 a
 have y:∀x,x∈w->x∈r.waits:=fun x a=>by grind
 have γ:∀x,x=mP 10 n.core l->x.kind=10:=fun x e=>by rw[e];rfl
 have A:=h.uN n (.inr (by rw[D];simp)) U
 rw[K] at A
 constructor
 case row=>exact zL (Bt h.row D)
 case ks=>exact h.ks
 case kg=>exact h.kg
 case told=>exact h.told
 case nc=>intro x a;rcases o x a with rfl|a;exact⟨rfl,s.2.1⟩;exact h.nc x a
 case ex=>exact h.ex
 case uB=>exact h.uB
 case t1=>
  intro j f
  have q:=h.t1 j f
  have Y:zJ ((r.next w).leave n.core) j=zJ r j:=rfl
  rw[Y]
  simp only[t,p] at q ⊢
  rw[show((r.next w).leave n.core).waits=w from rfl]
  grind
 case t2=>
  intro j f
  have q:=h.t2 j f
  simp only[t,p] at q ⊢
  show eX 3 j l N+_+eX 3 j l w+_=_
  grind
 case t3=>intro j f;have q:_=(((r.next w).leave n.core).asked j).toNat:=h.t3 j f;grind
 case t4=>intro j f;have q:=h.t4 j f;grind
 case a1=>intro j f I;have:=h.a1 j f I;grind
 case a2=>intro j f I hb;have:=h.a2 j f I hb;grind
 case rq=>intro x a k;exact h.rq x (a.elim (fun a=> .inl ((o x a).resolve_left (fun e=>by grind))) (fun a=> .inr (y x a))) k
 case rs=>exact h.rs
 case c1=>
  intro j f _ _
  by_cases e:j=i
  .rw[e,F];constructor
   .show _↔gO r.sh n.core false i=true;unfold gO;grind
   .show _↔(if r.owner=n.core then(-1:Int) else r.owner)=(i:Int);grind
  .rw[Z j e];have q:=u j f;constructor
   .show _↔gO r.sh n.core false j=true;unfold gO;grind
   .show _↔(if r.owner=n.core then(-1:Int) else r.owner)=(j:Int);grind
 case c2=>
  intro j f h2 k β e
  have E:=h.c2 j f
  grind
 case As=>grind
 case gN=>grind
 case pN=>grind
 case rN=>grind
 case uN=>intro x a k;exact h.uN x (a.elim (fun a=> .inl ((o x a).resolve_left (fun e=>by grind))) (fun a=> .inr (y x a))) k
 case c3=>
  intro j f E
  rcases hle j f with O|O
  .rw[O] at E;exact h.c3 j f E
  grind
 case c5=>
  intro q _
  by_cases ho:r.owner=n.core
  .have h2:=(u i B).2.2 (by omega);have S:=h.c3 i B (by omega);unfold sP at S;rw[aJ6 (by simpa using z.1)] at S;by_cases T:n.jU=true
   .grind
   .rw[aJ6 (fun e=>T e.2)];have α:¬((c i).gs=3\/(c i).gs=4):=fun e=>T (A.2 e);refine h.c5 (fun j f=>?_) (fun x a k=>absurd k (g x a).1);grind
  .rw[aJ6 (fun e=>ho e.1)];refine h.c5 (fun j f=>?_) (fun x a k=>absurd k (g x a).1);grind
 case k2=>intro b;rw[show((r.next w).leave n.core).busy=r.busy from rfl,hb] at b;cases b
theorem Inv.begun {w:List aJ} {j:Int->Int×Bool} (h:Inv l r m V c N) (hb:r.busy=false) (g:r.waits=n::w):
  Inv l (Row.begun (r.next w) l m n j).1.1 (Row.begun (r.next w) l m n j).1.2 V c ((Row.begun (r.next w) l m n j).2++N):=by
 obtain⟨B,t,y⟩:=h.idle hb
 have O:=h.row.waits n (by rw[g];simp)
 obtain⟨i,hi,I,J⟩:=fO O.2.1
 have q:∀j,j<4->r.asked j=false:=fun j p=>fZ B p
 have W:∀j,j<4->(HH l r c N j=1↔r.sh j=true)/\(2<=HH l r c N j↔r.owner=(j:Int)):=fun j p=>h.c1 j p (by have:=h.t3 j p;rw[fZ B p] at this;simp at this;omega) (by have:=h.t4 j p;unfold wF at this;rw[t] at this;simp at this;omega)
 have γ:=h.row.owner
 unfold Row.begun
 by_cases k3:n.kind=3
 .rw[aJ7 k3];exact h.vc hb g k3
 .rw[aJ6 k3];by_cases z:n.kind=1\/n.kind=2
  .rw[aJ7 z];by_cases p:(j n.world).2=true
   .rw[aJ7 p];have f:((r.next w).serve n (j n.world).1).served=n:=rfl;unfold Row.get;by_cases D:n.kind=2
    .simp only[aJ7 D];unfold Row.getM;by_cases A:((r.next w).serve n (j n.world).1).first n.core≠ -1
     .rw[aJ7 (by rw[f];exact A)];rw[f];have v:∀a,a∈((r.next w).serve n (j n.world).1).gC n.core->a<4/\(r.sh a=true\/r.owner=(a:Int)):=fun a b=>by
       have:=qQ.1 b;have E:r.holds n.core a=true:=this.2;unfold Row.holds at E;grind
      refine h.Kh hb g (.inr (.inr D)) K2 v (fun _ a b u uE=>qQ.2 ⟨b,?_⟩) (fun e=>by omega) (by grind) ⟨rfl,rfl,rfl,rfl,rfl,t,y⟩ (fun a b=>?_)
      .show r.holds n.core a=true;unfold Row.holds;grind
      .show(r.asked a||(((r.next w).serve n (j n.world).1).gC n.core).contains a)=_;grind
     .rw[aJ6 (by rw[f];exact A)];have X:((r.next w).serve n (j n.world).1).first n.core= -1:=Classical.not_not.1 A
      have K:=Gk.1 X
      have T:=h.Kh (r':=(r.next w).serve n (j n.world).1) (S:=[]) (st:=0) hb g (.inr (.inr D)) List.nodup_nil (fun _ e=>by cases e)
       (fun _ a b u uE=>by
        have E:r.sh a=false/\(a:Int)≠r.owner:=K a b (u D);grind) (fun _ _ e=>by cases e) (by grind) ⟨rfl,rfl,rfl,rfl,rfl,t,y⟩ (fun a b=>by show r.asked a=_;grind)
      have o:((r.next w).serve n (j n.world).1).sP m=m:=by unfold Row.sP;rw[aJ6];show ¬r.told=true;rw[y];simp
      rw[o]
      have F:∀a,HH l ((r.next w).serve n (j n.world).1) c (eG l 0 []++N) a=HH l r c N a:=fun a=>by
       unfold HH pd;show uE (c a) (eX 3 a l N+eX 3 a l w)=_;rw[g,cY,aaa];rfl
      refine(T.eE rfl t B (.inr D) (fun h0=>?_) (fun e=>by grind)).1
      refine h.c5 (fun a b=>?_) (fun x u k=>absurd k (h.calm B u).1)
      by_cases e:a=i
      .rw[F,f,J] at h0;rw[e];omega
      .have E:r.sh a=false/\(a:Int)≠r.owner:=K a b (by rw[I];omega);have:¬2<=HH l r c N a:=fun e2=>by have:=(W a b).2.1 e2;omega
       omega
    .simp only[aJ6 D];have s:n.kind=1:=by omega
     have Z:=(h.rq n (.inr (by rw[g];simp)) (.inl s))
     rw[J] at Z
     have has:(c i).pB=true:=by
      have:=h.t1 i hi;rw[g,cY (k:=1),aJ7 ⟨s,I,O.1⟩] at this;cases u:(c i).pB<;>simp_all
     have U:(c i).aw=false:=by grind
     have h0:=h.a2 i hi has U
     have Y:r.owner≠n.core:=fun e=>by grind
     have α:((r.next w).serve n (j n.world).1).nQ=(r.next w).serve n (j n.world).1:=by unfold Row.nQ;exact aJ6 Y
     rw[α]
     unfold Row.Tq
     by_cases R:r.owner≠ -1
     .rw[aJ7 (show((r.next w).serve n (j n.world).1).owner≠ -1 from R)];refine h.Kh hb g (.inr (.inl s)) (List.nodup_cons.2 ⟨by simp,List.nodup_nil⟩) (fun a b=>?_) (fun e=>absurd s e) (fun _ a b=>?_) (by rw[aJ7 s]) ⟨rfl,rfl,rfl,rfl,rfl,t,y⟩ (fun a b=>?_)
      .have b:a=((r.next w).serve n (j n.world).1).owner.toNat:=by simpa using b
       have b:a=r.owner.toNat:=b
       grind
      .have b:a=((r.next w).serve n (j n.world).1).owner.toNat:=by simpa using b
       have b:a=r.owner.toNat:=b
       omega
      .show(r.asked a||[r.owner.toNat].contains a)=_;rw[q a b];simp;rfl
     .rw[aJ6 (show ¬((r.next w).serve n (j n.world).1).owner≠ -1 from R)];have R:r.owner= -1:=Classical.not_not.1 R;have T:=h.Kh (r':=(r.next w).serve n (j n.world).1) (S:=[]) (st:=1) hb g (.inr (.inl s)) List.nodup_nil (fun _ e=>by cases e)
       (fun e=>absurd s e) (fun _ _ e=>by cases e) (by rw[aJ7 s]) ⟨rfl,rfl,rfl,rfl,rfl,t,y⟩ (fun a b=>by show r.asked a=_;grind)
      have o:((r.next w).serve n (j n.world).1).sP m=m:=by unfold Row.sP;rw[aJ6];show ¬r.told=true;rw[y];simp
      rw[o]
      have F:∀a,HH l ((r.next w).serve n (j n.world).1) c (eG l 1 []++N) a=HH l r c N a:=fun a=>by
       unfold HH pd;show uE (c a) (eX 3 a l N+eX 3 a l w)=_;rw[g,cY,aaa];rfl
      have β:∀a,a<4->¬2<=HH l r c N a:=fun a b e2=>by grind
      refine(T.eE rfl t B (.inl s) (fun _=>h.c5 (fun a b=>?_) (fun x u k=>absurd k (h.calm B u).1)) (fun _ a b=>?_)).1
      .grind
      grind
   .rw[aJ6 p];exact h.aFn g z
  .rw[aJ6 z];have k0:n.kind=0:=by grind
   by_cases A:(r.next w).first (-1)= -1
   .rw[aJ7 A];exact h.aGs g k0
   .rw[aJ6 A];have v:∀a,a∈(r.next w).gC (-1)->a<4/\(r.sh a=true\/r.owner=(a:Int)):=fun a b=>by
     have:=qQ.1 b;have E:r.holds (-1) a=true:=this.2;unfold Row.holds at E;grind
    refine h.Kh hb g (.inl k0) K2 v (fun _ a b u uE=>qQ.2 ⟨b,?_⟩) (fun e=>by omega) (by grind) ⟨rfl,rfl,rfl,rfl,rfl,t,y⟩ (fun a b=>?_)
    .show r.holds (-1) a=true;unfold Row.holds;grind
    .show(r.asked a||((r.next w).gC (-1)).contains a)=_;grind
theorem Inv.sc {a:Ln} (h:Inv l r m V c N) (f:∀i,i<4->HH l r c N i=0) (g:∀x∈N,x.kind≠8/\(x.kind=5->x.jU=false)):Inv l r a a c N:=by
 constructor;exact h.row;exact h.ks;exact h.kg;exact h.told;exact h.nc;exact h.ex;exact h.uB;exact h.t1;exact h.t2;exact h.t3;exact h.t4;exact h.a1;exact h.a2;exact h.rq;exact h.rs;exact h.c1;exact h.c2;exact h.As;grind;exact h.pN;exact fun x b k=>⟨(h.rN x b k).1,(h.rN x b k).2.1,fun e=>by grind⟩;exact h.uN;grind;exact fun _ _=>rfl;exact h.k2
theorem Inv.zero (l:Nat):Inv l wO (0,0) (0,0) (fun _=>⟨0,(0,0),false,false,false,0,(0,0)⟩) []:=by
 have b:∀i,HH l wO (fun _=>⟨0,(0,0),false,false,false,0,(0,0)⟩) [] i=0:=fun i=>by unfold HH uE pd;simp
 constructor;exact aBr l;intro e;cases e;intro e;cases e;intro e;cases e;intro x a;cases a;intro _ _ _;rfl;intro _ _;decide;intro _ _;rfl;intro _ _;rfl;intro _ _;rfl;intro _ _;rfl;intro _ _ e;cases e;intro _ _ e;cases e;intro x a;rcases a with a|a<;>cases a;intro e;cases e;intro i f _ _;rw[b];simp[wO]<;>omega;grind;grind;intro x a;cases a;intro x a;cases a;intro x a;cases a;intro x a;rcases a with a|a<;>cases a;grind;intro _ _;rfl;intro e;cases e
end
end Go.Pc
