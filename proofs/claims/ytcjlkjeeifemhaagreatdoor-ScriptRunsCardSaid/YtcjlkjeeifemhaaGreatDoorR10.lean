/- A part of the proof. -/
import Derived.Test.YtcjlkjeeifemhaaGreatDoorR9
import Derived.Test.YtcjlkjeeifemhaaGreatDoorR8
namespace Go.Mc
open Go Go.Ab Go.Hm Go.At Go.Is Go.Ct Go.Nt
section
variable {C:bM} {N:Nat} {M:cN}
theorem eK.mono {K:Nat} (h:eK C N M) (b:N<=K):eK C K M:=⟨h.dS,h.vF,h.Hh,h.An,fun l a=>⟨(h.home l a).1,Nat.le_trans (h.home l a).2 b⟩,h.jT,Nat.le_trans h.log b⟩
theorem Sp {α:Type} {P:α->Prop} {s:Nat->α} {i:Nat} {t:α} {n:Int} (h:∀j:Nat,(j:Int)<n->P (s j)) (b:P t):∀j:Nat,(j:Int)<n->P (bY s i t j):=by
 intro j a;unfold bY;grind
theorem eK.dH (h:eK C N M) {F:fM} (hF:Jx C F):eK C N (M.dH F):={h with jT:=hF}
theorem eK.sC (h:eK C N M) {m:Mon} (a:hJ C m):eK C N (M.sC m):={h with dS:=a}
theorem eK.rX (h:eK C N M) {H:kP} {K:Nat} (b:N<=K) (a:S8 C K H):eK C K (M.rX H):={h.mono b with home:=a}
theorem eK.qF (h:eK C N M) {i:Nat} {c:lE} (hc:mL C c):eK C N (M.qF i c):={h with Hh:=Sp h.Hh hc}
theorem eK.Cj (h:eK C N M) {i:Nat} {c:mP} (hc:yF C c):eK C N (M.Cj i c):={h with An:=Sp h.An hc}
theorem eK.Ho (h:eK C N M) {i:Nat} {c:aX} (hc:c.Ok):eK C N (M.Ho i c):={h with vF:=Sp h.vF hc}
theorem eK.Hu (h:eK C N M) {v:Ev}:eK C (N+1) (M.Hu v):={h.mono (Nat.le_succ N) with log:=by show(M.log++[v]).length<=N+1;rw[List.length_append,List.length_singleton];have:=h.log;omega}
theorem aD7 {m:Mon} (h:hJ C m) {g:Int} (a:m.has g):0<=(m.Bp g).owner/\(m.Bp g).owner<=4:=by
 refine h.own _ ?_;unfold Mon.has at a;unfold Mon.Bp;grind
theorem gq {m:Mon} (h:hJ C m) {g:Nat} {x:kR} (b:0<=x.owner/\x.owner<=4):hJ C (m.oh g x):=
 ⟨by show(m.fY.set g x).length=_;rw[List.length_set];exact h.len,fun y a=>by
  rcases List.mem_or_eq_of_mem_set a with a|rfl;exact h.own y a;exact b,h.run⟩
theorem Sh {m:Mon} (h:hJ C m) {g:Nat} {x:Option Mc.iU} (b:∀r,x=some r->(g:Int)<C.bU/\r.cE=g/\(r.phase=1\/r.phase=2)/\(0<=r.core/\r.core<C.aG)/\(0<=r.then'/\r.then'<=4)):hJ C (m.dX g x):=
 ⟨h.len,h.own,fun k r a=>by
  unfold Mon.dX bY at a;dsimp only at a;split at a;grind;exact h.run k r a⟩
theorem y4 {c w o t:Int}:0<=(mA c w o t).1/\(mA c w o t).1<=4:=by
 unfold mA;grind
theorem ze {m:Mon} (h:hJ C m) {a:Mc.Ask}:hJ C (m.call C.aG a).1:=by
 unfold Mon.call;split;exact h;rename_i e;split;exact h;rename_i b;have b:m.has a.cE:=Decidable.not_not.1 b;split;exact h;split;exact h;dsimp only;split;exact h;have g:=h.len;have c:=b;unfold Mon.has at c;refine Sh (gq h (x:=⟨(m.Bp a.cE).owner,true⟩) (aD7 h b)) fun r f=>?_;cases f;refine⟨by omega,?_,.inl rfl,Decidable.not_not.1 e,y4⟩;show a.cE=_;omega
theorem He {m:Mon} (h:hJ C m) {g c:Int}:hJ C (m.dropped C.aG g c).1:=by
 unfold Mon.dropped;split;exact h;rename_i j;have j:m.has g:=Decidable.not_not.1 j;split;exact h;rename_i r f;split;exact h;split;exact h;unfold Mon.run at f;split at f;refine Sh h fun k i=>?_;cases i;obtain⟨a,b,c,d,e⟩:=h.run _ r f;refine⟨a,b,?_,d,e⟩;unfold iU.mH iU.heard;grind;cases f
theorem Mf {m:Mon} (h:hJ C m) {g:Int}:hJ C (m.over g).1/\∀u,(m.over g).2.1=some u->0<=u.core/\u.core<C.aG:=by
 unfold Mon.over;split;grind;split;grind;rename_i r f;split;grind;unfold Mon.run at f;split at f;obtain⟨a,b,c,d,e⟩:=h.run _ r f;exact⟨Sh (gq h e) (fun r f=>by cases f),(fun u i=>by cases i;exact d)⟩;cases f
theorem S8.oQ {H:kP} (h:S8 C N H) {l:Nat} {x:sV} (b:sA l x.1) (c:x.1.waits.length<=N+1):S8 C (N+1) (bY H l x):=by
 intro k a;unfold bY;split;grind;exact⟨(h k a).1,Nat.le_succ_of_le (h k a).2⟩
theorem S8.mono {H:kP} {K:Nat} (h:S8 C N H) (b:N<=K):S8 C K H:=fun l a=>⟨(h l a).1,Nat.le_trans (h l a).2 b⟩
theorem Ou {H:kP} {l:Int} (h:S8 C N H):S8 C (N+1) (iV C H l).1:=by
 unfold iV;split;rename_i a;obtain⟨k,rfl⟩:=Int.eq_ofNat_of_zero_le a.1;have c:k<C.lines:=by have:=a.2;omega
 simp only[Int.toNat_natCast];obtain⟨b,e⟩:=h k c;refine h.oQ (Oc b rfl (by show(0:Int)<=0/\(0:Int)<4;omega) (.inl rfl)) ?_;show((H k).1.waits++[Ca k]).length<=N+1;simp;omega;exact h.mono (Nat.le_succ N)
theorem q7 {H:kP} {n:aK} (hC:C.Ok) (h:S8 C N H):S8 C (N+1) (fF C H n).1:=by
 have m:=hC.1;unfold fF;split;exact h.mono (Nat.le_succ N);rename_i c;have c:fT n.kind:=Decidable.not_not.1 c;split;rename_i p;obtain⟨q,g⟩:=p;obtain⟨l,a⟩:=Int.eq_ofNat_of_zero_le g.1;have o:l<C.lines:=by have:=g.2;omega
 have e:n.line.toNat=l:=by omega
 simp only[e];obtain⟨i,j⟩:=h l o;have k:=jt (x:=H l) i c a (by omega);rw[a];refine h.oQ k ?_;by_cases b:n.kind=4;unfold sV.take;rw[aNa b];split;grind;exact Nat.le_succ_of_le j;by_cases f:n.kind=5;unfold sV.take;rw[aN9 b,aNa f];split;grind;simp only[sV.Oj,bc,Vp];omega;unfold sV.take;rw[aN9 b,aN9 f];show((H l).1.waits++[n]).length<=N+1;simp;omega;exact h.mono (Nat.le_succ N)
theorem na {H:kP} {l:Int} {j:Int->Int×Bool} (h:S8 C N H):S8 C (N+1) (iA C H l j).1:=by
 unfold iA;split;rename_i i;obtain⟨k,rfl⟩:=Int.eq_ofNat_of_zero_le i.1;have p:k<C.lines:=by have:=i.2;omega
 simp only[Int.toNat_natCast];obtain⟨e,g⟩:=h k p;unfold sV.begin;split;exact h.oQ e (Nat.le_succ_of_le g);rename_i o;cases hw:(H k).1.waits with
 |nil=>exact h.oQ e (Nat.le_succ_of_le g)
 |cons n w=>
  simp only;have f:=e.waits n (by grind);obtain⟨a,b,c⟩:=ph (m:=(H k).2) (j:=j) (ki e hw) (show((H k).1.next w).busy=false from(by simpa using o:(H k).1.busy=false)) f.1 f.2.1 f.2.2;refine h.oQ a ?_;rw[Tm];show w.length<=N+1;grind
 exact h.mono (Nat.le_succ N)
theorem P1 {H:kP} {g:Int} (h:S8 C N H):S8 C N (vE H g):=by
 intro l a;unfold vE;split;exact h l a;exact h l a
theorem nh {n g:Int} (b:0<=n/\n<=16) (a:0<=g/\g<=100):0<=pQ n g/\pQ n g<=1000:=by unfold pQ;omega
theorem Vs {es:List kR} (i:es.length<=16) (f:∀x∈es,0<=x.owner/\x.owner<=4) {a:Int}:0<=(sQ es a).1/\(sQ es a).1<=1000000:=by
 have e:∀k,0<=(es.getD k kG).owner/\(es.getD k kG).owner<=4:=by
  intro k;rw[List.getD_eq_getElem?_getD];cases hk:es[k]? with
  |none=>show(0:Int)<=0/\(0:Int)<=4;omega
  |some x=>grind
 have b:∀w∈jB es,0<=w/\w<=1000000:=by
  intro w hw;unfold jB at hw;rcases List.mem_append.1 hw with hw|hw;obtain⟨j,c,rfl⟩:=List.mem_map.1 hw;have c:=List.mem_range.1 c;unfold Wf;split;grind;have:=nh (n:=es.length) (g:=((4*j:Nat):Int)) (by omega) (by omega);omega;obtain⟨x,h,rfl⟩:=List.mem_map.1 hw;have:=f x h;unfold jh;split<;>omega
 unfold sQ;split;simp_all;grind
theorem zU (h:eK C N M) {i:Nat} {v c:Int} (a:(i:Int)<C.aG):eK C (N+1) (M.cC i v c).1:=by
 unfold cN.cC;dsimp only;split;exact h.mono (Nat.le_succ N);exact(h.Ho (pf (h.vF i a))).Hu
def KK (k:Int):Prop:=k=6\/k=7\/k=12\/k=13
theorem aFe {l:List aK} (h:∀n∈l,n.kind≠12):∀n∈l,n.kind=12->0<=n.d0/\n.d0<=1000000:=fun n a e=>absurd e (h n a)
theorem noK {l:List aK} (h:∀n∈l,¬KK n.kind):∀n∈l,n.kind=12->0<=n.d0/\n.d0<=1000000:=aFe fun n a e=>h n a (by unfold KK;omega)
theorem aEs (h:eK C N M) {i:Nat} {a:Mc.Ask} (c:(i:Int)<C.aG):eK C (N+1) (M.call C i a).1:=by
 unfold cN.call;dsimp only;split;exact zU h c;split;exact h.mono (Nat.le_succ N);refine((h.dH (zV h.jT (aFe ?_))).sC (ze h.dS)).mono (Nat.le_succ N);intro n b;unfold Hj at b;obtain⟨k,_,rfl⟩:=List.mem_map.1 b;show(13:Int)≠12;omega
theorem aGw (h:eK C N M) {i:Nat} {g:Int} (a:(i:Int)<C.aG):eK C (N+1) (M.walk C i g).1:=by
 unfold cN.walk;dsimp only;split;exact h.mono (Nat.le_succ N);split;exact h.mono (Nat.le_succ N);refine((h.dH (zV h.jT (aFe ?_))).Cj (jd (h.An i a))).mono (Nat.le_succ N);intro n b;rw[List.mem_singleton.1 b];show(6:Int)≠12;omega
theorem aGf {core:Int} {s:lE} {l w:Int} {wr:Bool}:∀n∈(want C core s l w wr).2.1,¬KK n.kind:=by
 intro n a;unfold want at a;split at a;cases a;split at a;cases a;split at a;cases a;split at a;cases a;unfold zC at a;split at a;simp only[kO,List.nil_append,List.mem_singleton] at a;rw[a];unfold KK;grind;split at a;cases a;split at a;cases a;simp only[kO,List.mem_append,List.mem_singleton] at a;rcases a with rfl|rfl;unfold KK;dsimp only;omega;unfold KK;grind
theorem aGi (h:eK C N M) {i:Nat} {l:Int} {wr:Bool} (a:(i:Int)<C.aG):eK C (N+1) (M.want C i l wr).1:=by
 unfold cN.want;dsimp only;split;exact h.mono (Nat.le_succ N);split;exact h.mono (Nat.le_succ N);exact((h.dH (zV h.jT (noK aGf))).qF (pk (h.Hh i a))).mono (Nat.le_succ N)
theorem aH1 (h:eK C N M) {i:Nat} {l a o:Int} {x:Acc} (b:(i:Int)<C.aG):eK C (N+1) (M.Wn C i l a o x).1:=by
 unfold cN.Wn;dsimp only;refine zU (h.qF ?_) b;have c:mL C (if x.read=true then rN C (M.cX i) l a o else M.cX i):=by
  split;exact Gd (h.Hh i b);exact h.Hh i b
 split;exact Lb c;exact c
theorem yd (h:eK C N M) {i:Nat} {a:Acc} (b:(i:Int)<C.aG):eK C (N+1) (M.access C i a).1:=by
 unfold cN.access;split;exact zU h b;dsimp only;split;exact h.mono (Nat.le_succ N);split;exact aGw h b;split;exact zU h b;split;exact aGi h b;exact aH1 h b
theorem aG5 (h:eK C N M) {a:Int}:eK C (N+1) (M.step C a).1:=by
 unfold cN.step;split;exact h.mono (Nat.le_succ N);rename_i c;have c:0<=a/\a<C.aG:=Decidable.not_not.1 c;have b:((a.toNat:Nat):Int)<C.aG:=by omega
 dsimp only;split;exact h.mono (Nat.le_succ N);split;exact h.mono (Nat.le_succ N);split;rename_i r e;exact(h.Ho (ue (h.vF _ b) e)).Hu;split;exact aEs h b;split;exact yd h b;exact h.mono (Nat.le_succ N)
theorem Rg {r:Row} {line:Int} {d:Ln}:∀n∈(r.gH line d).2,¬KK n.kind:=by
 intro n a;unfold Row.gH at a;have e:∀s,(r.pF line s d).kind=8:=fun _=>rfl;unfold KK;grind
theorem Ky {line st:Int} {l:List Nat}:∀n∈gJ line st l,¬KK n.kind:=by
 intro n a;unfold gJ at a;obtain⟨k,_,rfl⟩:=List.mem_map.1 a;show ¬KK 11;unfold KK;omega
theorem aGb {r:Row} {line:Int} {m:Ln}:∀n∈(r.rest line m).2,¬KK n.kind:=by
 intro n a;unfold Row.rest at a;have b:= @Rg;grind
theorem ml {H:kP} {n:aK}:∀x∈(fF C H n).2.1,¬KK x.kind:=by
 intro x a;unfold fF at a;split at a;cases a;split at a;unfold sV.take at a;split at a;split at a<;>cases a;split at a;split at a;cases a;exact aGb x a;cases a;cases a
theorem aJm {r:Row} {line:Int} {m:Ln} {n:aK} {w:Int}:∀x∈(r.get line m n w).2,¬KK x.kind:=by
 intro x a;unfold Row.get at a;dsimp only at a;split at a;unfold Row.getM at a;split at a;exact Ky x a;exact Rg x a;unfold Row.bu at a;split at a;exact Ky x a;exact Rg x a
theorem br {H:kP} {l:Int} {j:Int->Int×Bool}:∀x∈(iA C H l j).2.1,¬KK x.kind:=by
 intro x a;unfold iA at a;split at a;unfold sV.begin at a;split at a;cases a;split at a;cases a;dsimp only at a;unfold Row.begun at a;split at a;rw[List.mem_singleton.1 a];show ¬KK 10;unfold KK;omega;split at a;split at a;exact aJm x a;rw[List.mem_singleton.1 a];show ¬KK 9;unfold KK;omega;split at a;cases a;exact Ky x a;cases a
theorem aAd {core:Int} {s:lE} {n:aK}:∀x∈(gY C core s n).2.1,¬KK x.kind:=by
 intro x a;have e:∀y,(kW core n y).kind=5:=fun y=>by unfold kW;split<;>rfl
 unfold gY vD Ef rS nS at a;repeat' split at a
 all_goals (unfold KK;grind)
theorem eK.take (h:eK C N M) (hC:C.Ok) (f:N<=2^29) {n:aK} (b:jf C n):xW C M n:=by
 obtain⟨e,c⟩:=T6 b.An;have a:((n.core.toNat:Nat):Int)<C.aG:=by omega
 exact⟨c,h.dS,h.home.h (by omega),h.Hh _ a,(h.An _ a).len hC,(h.An _ a).2,b.word⟩
theorem aBq (h:eK C N M) (hC:C.Ok) {n:aK} (c:jf C n):eK C (N+2) (M.fT C n).1/\∀x∈(M.fT C n).2.1,x.kind=12->0<=x.d0/\x.d0<=1000000:=by
 obtain⟨i,j⟩:=T6 c.An;have b:((n.core.toNat:Nat):Int)<C.aG:=by omega
 have k:=h.dS.len;have g:=hC.2.1;unfold cN.fT;split;exact⟨(h.rX (Nat.le_succ N) (q7 hC h.home)).mono (Nat.le_succ _),noK ml⟩;split;refine⟨(h.qF (j7 ?_ (h.Hh _ b))).mono (by omega),noK aAd⟩;intro f;have:=kn c.An f;omega;split;refine⟨h.mono (by omega),fun x a _=>?_⟩;rw[List.mem_singleton.1 a];exact Vs (by omega) h.dS.own;split;refine⟨(h.Cj (nw hC (h.An _ b))).mono (by omega),fun x a e=>?_⟩;dsimp only at a;split at a;cases a;rw[List.mem_singleton.1 a] at e;exact absurd e (by show(6:Int)≠12;omega);split;refine⟨(h.Cj (aDn (h.An _ b))).mono (by omega),fun x a e=>?_⟩;rw[List.mem_singleton.1 a] at e;exact absurd e (by show(7:Int)≠12;omega);split;refine⟨?_,fun x a _=>by cases a⟩;dsimp only;split;exact(h.sC (He h.dS)).rX (by omega) (Ou (Ou h.home));exact(h.sC (He h.dS)).mono (by omega);exact⟨h.mono (by omega),fun x a _=>by cases a⟩
theorem jq (h:eK C N M) (hC:C.Ok) {a b c:Int}:eK C (N+2) (M.uN C a b c).1:=by
 unfold cN.uN;dsimp only;split;exact h.mono (by omega);rename_i g;obtain⟨e,f⟩:=aBq h hC (V4 (a:=a) (b:=b) (c:=c) h.jT (Decidable.not_not.1 g)).1;split;exact h.mono (by omega);split;exact h.mono (by omega);exact e.dH (zV (Wd h.jT) f)
theorem aCq (h:eK C N M) {a:Int}:eK C (N+2) (M.begin C a).1:=by
 unfold cN.begin;dsimp only;split;exact h.mono (by omega);split;exact h.mono (by omega);exact((h.dH (zV h.jT (noK br))).rX (Nat.le_succ N) (na h.home)).mono (by omega)
theorem qx (h:eK C N M) {a:Int}:eK C (N+2) (M.finish C a).1:=by
 obtain⟨b,c⟩:=Mf (g:=a) h.dS;unfold cN.finish;split;exact h.mono (by omega);split;exact h.mono (by omega);dsimp only;split;exact h.mono (by omega);rename_i u e;have f:=c u e;refine(zU (N:=N) ?_ (by omega)).mono (by omega);split;exact(h.sC b).rX (Nat.le_refl N) (P1 h.home);exact h.sC b
theorem yy (h:eK C N M) (hC:C.Ok) {d:Do}:eK C (N+2) (M.vJ C d).1:=by
 unfold cN.vJ;split;exact(aG5 h).mono (by omega);split;exact jq h hC;split;exact aCq h;split;exact qx h;exact h.mono (by omega)
end
section
variable {C:bM} {N:Nat} {M:cN}
def rp (i:Nat) (s:aX) (x:Ev):Option aX:=match aX.mT s i with
 |some r=>if r.2=x then some r.1 else none
 |none=>if(aX.cC s i x.value x.code).2.2=0/\(aX.cC s i x.value x.code).2.1=x then some (aX.cC s i x.value x.code).1 else none
theorem Xs {s:aX} {i:Nat} {r:aX×Ev} (h:aX.mT s i=some r):r.2.core=i:=by
 unfold aX.mT at h;cases hn:aX.next? s with
 |none=>rw[hn] at h;cases h
 |some x=>
  rw[hn] at h;dsimp only at h;repeat' split at h
  all_goals first|cases h|skip
  all_goals rfl
theorem uw {s:aX} {i:Nat} {r:aX×Ev} (h:aX.mT s i=some r):rp i s r.2=some r.1:=by
 unfold rp;grind
theorem Qh {s:aX} {i:Nat} {v c:Int} (h:(aX.cC s i v c).2.2=0):aX.mT s i=none:=by
 unfold aX.cC at h;unfold aX.mT;cases hn:aX.next? s with
 |none=>rfl
 |some x=>
  rw[hn] at h;dsimp only at h ⊢;unfold J5 at h;grind
theorem Hd {s:aX} {i:Nat} {v c:Int} (h:(aX.cC s i v c).2.2=0):(aX.cC s i v c).2.1.core=i:=by
 unfold aX.cC at h ⊢;cases hn:aX.next? s with
 |none=>rw[hn] at h;cases h
 |some x=>
  rw[hn] at h;dsimp only at h ⊢;repeat' split at h
  all_goals first|cases h|skip
  all_goals simp_all [aX.ev]
theorem Of {s:aX} {i:Nat} {v c:Int} (h:(aX.cC s i v c).2.2=0):rp i s (aX.cC s i v c).2.1=some (aX.cC s i v c).1:=by
 unfold rp;rw[Qh h];dsimp only;have e:aX.cC s i (aX.cC s i v c).2.1.value (aX.cC s i v c).2.1.code=aX.cC s i v c:=by
  unfold aX.cC at h ⊢;cases hn:aX.next? s with
  |none=>rfl
  |some x=>
   rw[hn] at h;dsimp only at h ⊢;unfold aX.ev;grind
 grind
def rc (m:Mon) (g:Nat):Option Int:=(m.runs g).map iU.core
structure zg (M:cN):Prop where
 op:∀g c,rc M.dS g=some c->∃x,aX.next? (M.bJ c.toNat)=some x/\x.op=8
 one:∀g g' c,rc M.dS g=some c->rc M.dS g'=some c->g=g'
theorem jk (hC:C.Ok) {m:Mon} (a:hJ C m) {c:Int}:m.calls c=true↔∃g,rc m g=some c:=by
 unfold Mon.calls Mon.running rc;rw[List.any_eq_true];constructor;rintro ⟨g,b,h⟩;unfold Mon.kS at h;grind;rintro ⟨g,h⟩;cases hr:m.runs g with
 |none=>rw[hr] at h;cases h
 |some r=>
  rw[hr] at h;have:=a.aI5 hC g r hr;refine⟨g,List.mem_filter.2 ⟨List.mem_range.2 this,by rw[hr];rfl⟩,?_⟩;unfold Mon.kS;grind
inductive Out (C:bM) (d:Do) (M M':cN):Prop where
 |same (h1:M'.bJ=M.bJ) (h2:M'.log=M.log) (h3:∀g,rc M'.dS g=rc M.dS g)
 |ev (i:Nat) (s:aX) (v:Ev) (hi:(i:Int)<C.aG) (hd:d.eI=0/\d.a=i) (hw:M.dS.calls i=false) (h1:M'.bJ=bY M.bJ i s) (h2:M'.log=M.log++[v]) (hc:v.core=i) (hr:rp i (M.bJ i) v=some s) (h3:∀g,rc M'.dS g=rc M.dS g)
 |ask (i g:Nat) (hi:(i:Int)<C.aG) (hd:d.eI=0/\d.a=i) (hw:M.dS.calls i=false) (h1:M'.bJ=M.bJ) (h2:M'.log=M.log) (hx:∃x,aX.next? (M.bJ i)=some x/\x.op=8) (h3:∀g',rc M'.dS g'=if g'=g then some (i:Int) else rc M.dS g') (h0:rc M.dS g=none)
 |fin (i g:Nat) (s:aX) (v:Ev) (hi:(i:Int)<C.aG) (hd:d.eI=3) (hg:rc M.dS g=some (i:Int)) (h1:M'.bJ=bY M.bJ i s) (h2:M'.log=M.log++[v]) (hc:v.core=i) (ho:v.op=8/\v.code=0) (ha:s.at'=(M.bJ i).at'+1) (hr:rp i (M.bJ i) v=some s) (h3:∀g',rc M'.dS g'=if g'=g then none else rc M.dS g')
theorem xP {d:Do} {i:Nat} {v c:Int} (b:(i:Int)<C.aG) (a:d.eI=0/\d.a=i) (e:M.dS.calls i=false):Out C d M (M.cC i v c).1:=by
 unfold cN.cC;dsimp only;split;exact .same rfl rfl fun _=>rfl;rename_i h;have h:(aX.cC (M.bJ i) i v c).2.2=0:=Decidable.not_not.1 h;exact .ev i _ _ b a e rfl rfl (Hd h) (Of h) fun _=>rfl
theorem aG2 {s:aX} {i:Nat} {a:Mc.Ask} (h:aX.Xk s i=some a):a.core=i/\∃x,aX.next? s=some x/\x.op=8:=by
 unfold aX.Xk at h;grind
theorem xd {d:Do} {i:Nat} {a:Mc.Ask} (o:eK C N M) (h:(i:Int)<C.aG) (g:d.eI=0/\d.a=i) (j:M.dS.calls i=false) (p:aX.Xk (M.bJ i) i=some a):Out C d M (M.call C i a).1:=by
 obtain⟨m,n⟩:=aG2 p;unfold cN.call;dsimp only;split;exact xP h g j
 .rename_i b;split;exact .same rfl rfl fun _=>rfl
  .have b:(M.dS.call C.aG a).2.2=0:=Decidable.not_not.1 b;have e:rc M.dS a.cE.toNat=none:=by
    unfold Mon.call at b;split at b;cases b;split at b;cases b;rename_i f;split at b;cases b;rename_i c;have l:0<=a.cE:=(Decidable.not_not.1 f).1;have c:M.dS.phase a.cE=0:=Decidable.not_not.1 c;unfold Mon.phase Mon.run at c;rw[aNa l] at c;unfold rc;cases hr:M.dS.runs a.cE.toNat with
    |none=>rfl
    |some r=>rw[hr] at c;have:=(o.dS.run _ r hr).2.2.1;grind
   refine .ask i a.cE.toNat h g j rfl rfl n (fun k=>?_) e;show rc (M.dS.call C.aG a).1 k=_;unfold Mon.call at b ⊢;repeat' split at b
   all_goals first|(exfalso;revert b;simp;done)|skip
   rename_i q f c s;rw[aN9 q,aN9 f,aN9 c,aN9 s];dsimp only at b ⊢;split at b;grind;rename_i n5;rw[aN9 n5];unfold rc Mon.dX bY;dsimp only;split;show some a.core=_;rw[m];rfl
theorem Zi {d:Do} {i:Nat} {a:Acc} (j:(i:Int)<C.aG) (h:d.eI=0/\d.a=i) (m:M.dS.calls i=false):Out C d M (M.access C i a).1:=by
 have same:∀{r:cN},r.bJ=M.bJ->r.log=M.log->r.dS=M.dS->Out C d M r:=fun a b c=> .same a b fun g=>by rw[c]
 unfold cN.access;split;exact xP j h m;dsimp only;split;grind;split;unfold cN.walk;grind;split;exact xP j h m;split;unfold cN.want;grind;unfold cN.Wn;dsimp only;rcases xP (C:=C) (M:=M.qF i (if a.write=true then mS C (if a.read=true then rN C (M.cX i) (a.word/2) (a.word % 2) (M.known i (a.word/2/2)) else M.cX i) (a.word/2) (a.word % 2) (M.known i (a.word/2/2)) a.value else if a.read=true then rN C (M.cX i) (a.word/2) (a.word % 2) (M.known i (a.word/2/2)) else M.cX i)) (d:=d) (v:=if a.read=true then Dc C (M.cX i) (a.word/2) (a.word % 2) else 0) (c:=0) j h m with⟨a,b,c⟩|⟨i,s,v,a,b,c,e,f,g,k,l⟩|⟨i,g,a,b,c,e,f,k,l,z⟩|⟨i,g,s,v,a,b,c,e,f,k,l,n,o,p⟩;exact .same a b c;exact .ev i s v a b c e f g k l;exact .ask i g a b c e f k l z;grind
theorem Kr {m:Mon} {g c:Int}:∀k,rc (m.dropped C.aG g c).1 k=rc m k:=by
 intro k;unfold Mon.dropped;split;rfl;split;rfl;rename_i r a;split;rfl;split;rfl;unfold Mon.run at a;split at a;unfold rc Mon.dX bY;dsimp only;split;rename_i e;subst e;rw[a];rfl;rfl;cases a
theorem Fz {n:aK}:(M.fT C n).1.bJ=M.bJ/\(M.fT C n).1.log=M.log/\∀g,rc (M.fT C n).1.dS g=rc M.dS g:=by
 unfold cN.fT;repeat' split
 all_goals first
  |exact⟨rfl,rfl,fun _=>rfl⟩
  |skip
 dsimp only;split;exact⟨rfl,rfl,fun g=>Kr g⟩;exact⟨rfl,rfl,fun g=>Kr g⟩
theorem aC3 {m:Mon} {g:Int} {u:Mc.iU} (h:(m.over g).2.1=some u):rc m g.toNat=some u.core/\∀k,rc (m.over g).1 k=if k=g.toNat then none else rc m k:=by
 unfold Mon.over at h ⊢;split at h;cases h;rename_i a;rw[aN9 a];cases hr:m.run g with
 |none=>rw[hr] at h;cases h
 |some r=>
  rw[hr] at h;dsimp only at h ⊢;split at h;cases h;rename_i b;rw[aN9 b];cases h;unfold Mon.run at hr;split at hr;refine⟨by unfold rc;rw[hr];rfl,fun k=>?_⟩;unfold rc Mon.dX bY;dsimp only;split;rfl;rfl;cases hr
theorem ee (_:C.Ok) (o:eK C N M) (hW:zg M) {d:Do}:Out C d M (M.vJ C d).1:=by
 have same:∀{r:cN},r.bJ=M.bJ->r.log=M.log->(∀g,rc r.dS g=rc M.dS g)->Out C d M r:=fun a b c=> .same a b c;unfold cN.vJ;split;rename_i l;unfold cN.step;split;grind;rename_i k;have k:0<=d.a/\d.a<C.aG:=Decidable.not_not.1 k;have h:((d.a.toNat:Nat):Int)<C.aG:=by omega
 have e:d.eI=0/\d.a=(d.a.toNat:Nat):=⟨l,by omega⟩;dsimp only;split;grind;split;grind;rename_i f;have f:M.dS.calls ((d.a.toNat:Nat):Int)=false:=by
  rw[<-e.2];unfold cN.waits at f;simpa using f
 split;rename_i r p;exact .ev _ _ _ h e f rfl rfl (Xs p) (uw p) fun _=>rfl;split;rename_i a k;exact xd o h e f k;split;exact Zi h e f;grind
 .split
  .unfold cN.uN;dsimp only;repeat' split
   all_goals first
    |exact same rfl rfl fun _=>rfl
    |exact same Fz.1 Fz.2.1 Fz.2.2
  split;unfold cN.begin;grind;split;rename_i l;unfold cN.finish;split;grind;split;grind;dsimp only;split;grind;rename_i u q;obtain⟨n,B⟩:=aC3 q;have v:=(Mf (g:=d.a) o.dS).2 u q;obtain⟨i,h⟩:=Int.eq_ofNat_of_zero_le v.1;obtain⟨x,y,t⟩:=hW.op _ _ n;have s:u.core.toNat=i:=by omega
  rw[s] at y ⊢;have z:∀P:cN,P.bJ=M.bJ->P.log=M.log->(∀g,rc P.dS g=if g=d.a.toNat then none else rc M.dS g)->Out C d M (P.cC i 0 0).1:=by
   intro P p1 D A;have j:aX.cC (P.bJ i) i 0 0=(((M.bJ i).dX x.b 0).rA ((M.bJ i).at'+1),aX.ev (M.bJ i) i x ((M.bJ i).eB x.b.toNat) ((M.bJ i).eB x.c.toNat) 0,0):=by
    rw[p1];unfold aX.cC;grind
   have m:(aX.cC (M.bJ i) i 0 0).2.2=0:=by rw[<-p1,j]
   unfold cN.cC;dsimp only;rw[aN9 (by rw[j];simp)];refine .fin i d.a.toNat (aX.cC (P.bJ i) i 0 0).1 (aX.cC (P.bJ i) i 0 0).2.1 (by omega) l (by rw[n,h]) (by grind) (by grind) ?_ ?_ ?_ ?_ A;rw[p1];exact Hd m;rw[j];exact⟨t,rfl⟩;rw[j];rfl;rw[p1];exact Of m
  grind;grind
end
section
variable {C:bM} {N:Nat} {M M':cN} {d:Do}
theorem cy {m:Mon} (a:hJ C m) {g:Nat} {c:Int} (h:rc m g=some c):0<=c/\c<C.aG:=by
 unfold rc at h;cases hr:m.runs g with
 |none=>rw[hr] at h;cases h
 |some r=>
  rw[hr] at h;cases h;exact(a.run g r hr).2.2.2.1
theorem zg.out (hC:C.Ok) (n:eK C N M) (hW:zg M) (x:Out C d M M'):zg M':=by
 have o:∀{i:Nat},M.dS.calls i=false->∀g c,rc M.dS g=some c->c.toNat≠i:=by
  intro i D g c f e;have l:=cy n.dS f;have:c=i:=by omega
  subst this;have:=(jk hC n.dS).2 ⟨g,f⟩;grind
 cases x with
 |same l m h=>exact⟨fun g c f=>by rw[l];exact hW.op g c (by rw[<-h];exact f),fun g k c a b=>hW.one g k c (by rw[<-h];exact a) (by rw[<-h];exact b)⟩
 |ev i s v r q t l m u y h=>
  refine⟨fun g c f=>?_,fun g k c a b=>hW.one g k c (by rw[<-h];exact a) (by rw[<-h];exact b)⟩;rw[h] at f;rw[l];unfold bY;rw[aN9 (o t g c f)];exact hW.op g c f
 |ask i g r q t l m z h=>
  constructor;intro k c f;rw[h] at f;rw[l];split at f;cases f;exact z;exact hW.op k c f;intro g1 g2 c a b;rw[h] at a b;split at a;grind;split at b;grind;exact hW.one g1 g2 c a b
 |fin i g s v r q f l m u E B y h=>
  constructor;intro k c j;rw[h] at j;split at j;cases j;rename_i p;rw[l];unfold bY;have A:=cy n.dS j;rw[aN9 (fun e=>p (hW.one k g c j (by grind)))];exact hW.op k c j;intro g1 g2 c a b;rw[h] at a b;split at a;cases a;split at b;cases b;exact hW.one g1 g2 c a b
def qf (i:Nat) (s:aX):List Ev->Option aX
 |[]=>some s
 |x::l=>if x.core=i then(match rp i s x with|some t=>qf i t l|none=>none) else qf i s l
theorem S2 {i:Nat}:∀{l:List Ev} {s t:aX} {x:Ev},qf i s l=some t->qf i s (l++[x])=if x.core=i then rp i t x else some t
 |[],s,t,x,h=>by
  cases h;show qf i s [x]=_;unfold qf;split;cases rp i s x<;>rfl;rfl
 |y::l,s,t,x,h=>by
  rw[List.cons_append];unfold qf at h ⊢;split;rename_i e;rw[aNa e] at h;cases hr:rp i s y with
  |none=>rw[hr] at h;cases h
  |some u=>rw[hr] at h;exact S2 h
  rename_i e;rw[aN9 e] at h;exact S2 h
def RPs (C:bM) (S:Nat->aX) (M:cN):Prop:=∀i:Nat,(i:Int)<C.aG->qf i (S i) M.log=some (M.bJ i)
theorem RPs.out {S:Nat->aX} (h:RPs C S M) (o:Out C d M M'):RPs C S M':=by
 have one:∀{i:Nat} {s:aX} {v:Ev},M'.bJ=bY M.bJ i s->M'.log=M.log++[v]->v.core=i->rp i (M.bJ i) v=some s->RPs C S M':=by
  intro i s v a b f k j n;rw[a,b,S2 (h j n)];unfold bY;by_cases e:j=i;subst e;rw[aNa f,aNa rfl];exact k;grind
 cases o with
 |same a b l=>intro i c;rw[a,b];exact h i c
 |ev i s v c m p a b f k l=>exact one a b f k
 |ask i g c m p a b u l=>intro i c;rw[a,b];exact h i c
 |fin i g s v c m r a b f t q k l=>exact one a b f k
structure cj (C:bM) (S:Nat->aX) (N:Nat) (M:cN):Prop where
 inv:eK C N M
 wait:zg M
 qf:RPs C S M
theorem cj.vJ {S:Nat->aX} (hC:C.Ok) (h:cj C S N M):cj C S (N+2) (M.vJ C d).1:=by
 have a:=ee (d:=d) hC h.inv h.wait;exact⟨yy h.inv hC,h.wait.out hC h.inv a,h.qf.out a⟩
theorem cj.len {S:Nat->aX} (h:cj C S N M):M.log.length<=N:=h.inv.log
theorem cj.runs {S:Nat->aX} (hC:C.Ok):∀{l:List Do} {N:Nat} {M:cN},cj C S N M->cj C S (N+2*l.length) (M.runs C l):=by
 intro l;induction l with
 |nil=>intro N M h;exact h
 |cons d l a=>
  intro N M h;have:=a (h.vJ (d:=d) hC);rw[List.length_cons,show N+2*(l.length+1)=N+2+2*l.length by omega];exact this
theorem wg:(M.tH C [d] 0).1=(M.vJ C d).1:=by
 unfold cN.tH;split;rfl;rfl
end
end Go.Mc
namespace Go.Mc
open Go Go.Ab Go.Hm Go.At Go.Is Go.Ct Go.Nt Go.Sc
section
variable {C:bM} {N:Nat} {M:cN}
def lR (d:Ln):Prop:=fU d.1/\fU d.2
def nR (n:aK):Prop:=fU n.d0/\fU n.d1
structure cR (c:lE):Prop where
 S:∀i,∀t∈c.S i,lR t.2.d
 g:lR c.gc.d
structure wR (r:Row):Prop where
 d:fU r.d0/\fU r.d1
 w:∀n∈r.waits,nR n
def hR (H:kP):Prop:=∀l,wR (H l).1/\lR (H l).2
structure sR (s:aX):Prop where
 r:∀k,fU (s.eB k)
 w:fU s.world
 p:∀x∈s.prog,x.fU
def eR (v:Ev):Prop:=∀x∈evL v,fU x
def fR (F:fM):Prop:=∀c w,∀n∈F c w,nR n
structure DR (M:cN):Prop where
 vF:∀i,sR (M.bJ i)
 Hh:∀i,cR (M.cX i)
 home:hR M.home
 jT:fR M.jT
 log:∀v∈M.log,eR v
theorem gC:fU 0:=by unfold fU;omega
theorem Jr {x:Int} (h: -1000000<=x/\x<=1000000):fU x:=by unfold fU;omega
theorem y0 (x:Int):fU (wr x):=by
 have e:wr x=if x % 18446744073709551616>=9223372036854775808 then x % 18446744073709551616 - 18446744073709551616 else x % 18446744073709551616:=by
  unfold wr IntKind.wrap;simp[IntKind.bits,IntKind.signed]
 rw[e];unfold fU;split<;>omega
theorem K3 {n:Nat} {S:Nat->List Th} {l:Int} (h:∀i,∀t∈S i,lR t.2.d):lR (cA n S l).1.d:=by
 unfold cA;split;exact⟨gC,gC⟩;split;rename_i x a;exact h _ _ (get_mem a);exact⟨gC,gC⟩
theorem Kx {n:Nat} {S:Nat->List Th} {l:Int} (h:∀i,∀t∈S i,lR t.2.d):∀i,∀t∈kL n S l i,lR t.2.d:=by
 intro i t a;unfold kL at a;split at a;exact h _ _ a;unfold bY at a;split at a;exact h _ _ (rY.mem a);exact h _ _ a
theorem Te {n w:Nat} {S:Nat->List Th} {l:Int} {x:rI} (h:∀i,∀t∈S i,lR t.2.d) (b:lR x.d):∀i,∀t∈(mV n w S l x).1 i,lR t.2.d:=by
 intro i t a;unfold mV bY at a;split at a;dsimp only at a;split at a;exact h _ _ (rY.mem a);exact h _ _ a;dsimp only at a;split at a;rcases List.mem_append.1 a with a|a;exact h _ _ (rY.mem a);rw[List.mem_singleton.1 a];exact b;exact h _ _ a
theorem aJa {n w:Nat} {S:Nat->List Th} {l:Int} (h:∀i,∀t∈S i,lR t.2.d):∀i,∀t∈Gu n w S l i,lR t.2.d:=by
 unfold Gu;split;exact Te (Kx h) (K3 h);exact Kx h
theorem aCt {c:lE} {l a o:Int} (h:cR c):cR (rN C c l a o):=by
 unfold rN;split;exact⟨aJa h.S,h.g⟩;exact h
theorem aG9 {d:Ln} {a v:Int} (h:lR d) (b:fU v):lR (aGm d a v):=by
 unfold aGm;split;exact⟨b,h.2⟩;exact⟨h.1,b⟩
theorem yo {c:lE} {l a o v:Int} (h:cR c) (b:fU v):cR (mS C c l a o v):=by
 unfold mS;split;exact⟨Te h.S (aG9 (K3 h.S) b),h.g⟩;exact h
theorem oy {c:lE} {l a:Int} (h:cR c):fU (Dc C c l a):=by
 have:=K3 (n:=C.bK.toNat) (l:=l) h.S;unfold Dc aJ7;split;exact this.1;exact this.2
theorem V0 {k c l w s n:Int} {d:Bool}:nR ⟨k,c,l,w,s,0,0,d,n⟩:=⟨gC,gC⟩
theorem aFb {core:Int} {c:lE} {l w:Int} {wr:Bool} (h:cR c):cR (want C core c l w wr).1/\∀n∈(want C core c l w wr).2.1,nR n:=by
 unfold want;split;exact⟨h,by simp⟩;split;exact⟨h,by simp⟩;split;exact⟨h,by simp⟩;split;exact⟨h,by simp⟩;unfold zC;split;refine⟨⟨h.S,h.g⟩,fun n a=>?_⟩;simp only[kO,List.nil_append,List.mem_singleton] at a;rw[a];exact V0;split;exact⟨h,by simp⟩;split;exact⟨⟨Kx h.S,h.g⟩,by simp⟩;have b:=fun v:Th=>K3 (n:=C.bK.toNat) (l:=v.1) h.S;refine⟨⟨Kx h.S,b _⟩,fun n a=>?_⟩;simp only[kO,List.mem_append,List.mem_singleton] at a;rcases a with rfl|rfl;exact b _;exact V0
theorem et {core:Int} {n:aK} {x:rI} (h:lR x.d):nR (kW core n x):=by
 unfold kW;split;exact h;exact V0
theorem aDj {core:Int} {c:lE} {n:aK} (h:cR c) (f:nR n):cR (gY C core c n).1/\∀x∈(gY C core c n).2.1,nR x:=by
 have b:=K3 (n:=C.bK.toNat) (l:=n.line) h.S;have a:cR c/\∀x∈([]:List aK),nR x:=⟨h,by simp⟩;have e:lR (kT C c n).d:=by
  unfold kT;dsimp only;split;exact b;exact f
 have one:∀{y:aK},nR y->∀x∈[y],nR x:=fun i x g=>by rw[List.mem_singleton.1 g];exact i
 unfold gY;split;split;exact a;unfold vD;split;exact a;split;exact a;split;exact⟨⟨Te h.S e,h.g⟩,by simp⟩;exact⟨⟨Te h.S e,h.g⟩,one V0⟩;split;split;exact a;unfold Ef;split;exact a;split;exact a;exact⟨⟨h.S,h.g⟩,by simp⟩;split;split;exact a;unfold rS;split;exact a;split;exact a;exact⟨⟨h.S,gC,gC⟩,by simp⟩;split;split;exact a;unfold nS;split;exact a;split;refine⟨⟨?_,h.g⟩,one (et b)⟩;dsimp only;split;exact Kx h.S;exact Te h.S b;split;exact⟨h,one V0⟩;split;exact⟨h,one V0⟩;exact⟨⟨h.S,h.g⟩,one (et h.g)⟩;exact a
theorem ru {r:Row} {m:Ln} (h:wR r) (a:lR m):lR (r.Z9 m):=by
 unfold Row.Z9;split;exact h.d;exact a
theorem Sy {r:Row} {l:Int} {d:Ln} (h:wR r) (a:lR d):wR (r.gH l d).1/\∀n∈(r.gH l d).2,nR n:=by
 have e:∀s,nR (r.pF l s d):=fun _=>a;unfold Row.gH;have one:∀{y:aK},nR y->∀x∈[y],nR x:=fun c x b=>by rw[List.mem_singleton.1 b];exact c
 split;exact⟨⟨h.d,h.w⟩,one (e _)⟩;split;exact⟨⟨h.d,h.w⟩,one (e _)⟩;exact⟨⟨h.d,h.w⟩,one (e _)⟩
theorem K5 {l s:Int} {ls:List Nat}:∀n∈gJ l s ls,nR n:=by
 intro n a;unfold gJ at a;obtain⟨k,_,rfl⟩:=List.mem_map.1 a;exact V0
theorem aDa {r:Row} {n:aK} (h:wR r) (a:nR n):wR (r.heard n):=by
 unfold Row.heard;repeat' split
 all_goals first|exact⟨h.d,h.w⟩|exact⟨a,h.w⟩
theorem aFy {r:Row} {l:Int} {m:Ln} (h:wR r) (a:lR m):wR (r.rest l m).1/\∀n∈(r.rest l m).2,nR n:=by
 unfold Row.rest;split;split;exact⟨⟨⟨gC,gC⟩,h.w⟩,by simp⟩;exact Sy h (ru h a);exact⟨h,by simp⟩
theorem hR.oQ {H:kP} (h:hR H) {l:Nat} {x:sV} (a:wR x.1) (b:lR x.2):hR (bY H l x):=by
 intro k;unfold bY;split;exact⟨a,b⟩;exact h k
theorem aDp {r:Row} {n:aK} (h:wR r) (b:nR n):wR (r.wait n):=⟨h.d,fun x a=>by
 rcases List.mem_append.1 a with a|a;exact h.w x a;rw[List.mem_singleton.1 a];exact b⟩
theorem mc {H:kP} {n:aK} (h:hR H) (c:nR n):hR (fF C H n).1/\∀x∈(fF C H n).2.1,nR x:=by
 unfold fF;split;exact⟨h,by simp⟩;split;obtain⟨a,b⟩:=h n.line.toNat;unfold sV.take;split;split;exact⟨h.oQ a b,by simp⟩;exact⟨h.oQ ⟨⟨gC,gC⟩,a.w⟩ b,by simp⟩;split;split;exact⟨h.oQ a b,by simp⟩;have e:lR ((H n.line.toNat).1.Fm (H n.line.toNat).2 n):=by
  unfold Row.Fm;split;exact c;exact b
 have f:=aFy (l:=n.line) (aDa a c) e;exact⟨h.oQ f.1 e,f.2⟩;exact⟨h.oQ (aDp a c) b,by simp⟩;exact⟨h,by simp⟩
theorem Ma {H:kP} {l:Int} (h:hR H):hR (iV C H l).1:=by
 unfold iV;split;exact h.oQ (aDp (h _).1 V0) (h _).2;exact h
theorem aH2 {r:Row} {l:Int} {m:Ln} {n:aK} {w:Int} (h:wR r) (c:lR m):wR (r.get l m n w).1/\∀x∈(r.get l m n w).2,nR x:=by
 have b:wR (r.serve n w):=⟨h.d,h.w⟩;unfold Row.get;dsimp only;split;unfold Row.getM;split;exact⟨⟨h.d,h.w⟩,K5⟩;exact Sy b (ru b c);have a:wR (r.serve n w).rM:=by
  unfold Row.rM;split;exact⟨h.d,h.w⟩;exact b
 unfold Row.bu;split;exact⟨⟨a.d,a.w⟩,K5⟩;exact Sy a (ru a c)
theorem Yd {H:kP} {l:Int} {j:Int->Int×Bool} (h:hR H):hR (iA C H l j).1/\∀x∈(iA C H l j).2.1,nR x:=by
 have one:∀{y:aK},nR y->∀x∈[y],nR x:=fun i x a=>by rw[List.mem_singleton.1 a];exact i
 unfold iA;split;obtain⟨c,b⟩:=h l.toNat;unfold sV.begin;split;exact⟨h.oQ c b,by simp⟩;split;exact⟨h.oQ c b,by simp⟩;rename_i n w f;have g:nR n:=c.w n (by rw[f];exact List.mem_cons_self);have a:wR ((H l.toNat).1.next w):=⟨c.d,fun x a=>c.w x (by rw[f];exact List.mem_cons_of_mem _ a)⟩;dsimp only;unfold Row.begun;split;refine⟨h.oQ ⟨a.d,a.w⟩ ?_,one V0⟩;dsimp only;split;exact g;exact b;split;split;have e:=aH2 (l:=l) (n:=n) (w:=(j n.world).1) a b;exact⟨h.oQ e.1 b,e.2⟩;exact⟨h.oQ a b,one V0⟩;split;exact⟨h.oQ a b,by simp⟩;exact⟨h.oQ ⟨a.d,a.w⟩ b,K5⟩;exact⟨h,by simp⟩
theorem aAi {H:kP} {g:Int} (h:hR H):hR (vE H g):=by
 intro l;unfold vE;split;exact⟨(h l).1,gC,gC⟩;exact h l
theorem uz {F:fM} {c w:Nat} {l:List aK} (h:fR F) (e:∀n∈l,nR n):fR (F.set c w l):=by
 intro b f n a;unfold fM.set at a;split at a;exact e n a;exact h b f n a
theorem we {d:Int}:∀{l:List aK} {F b:fM},fR F->(∀n∈l,nR n)->fM.Du d F l=some b->fR b
 |[],F,b,h,_,e=>by cases e;exact h
 |n::l,F,b,h,c,e=>by
  unfold fM.Du at e;split at e;refine we (uz h fun x a=>?_) (fun x a=>c x (List.mem_cons_of_mem _ a)) e;rcases List.mem_append.1 a with a|a;exact h _ _ x a;rw[List.mem_singleton.1 a];exact c n List.mem_cons_self;cases e
theorem Ke {F:fM} {l:List aK} (h:fR F) (a:∀n∈l,nR n):fR (F.send C l).1:=by
 unfold fM.send;split;exact h;split;rename_i b e;exact we h a e;exact h
theorem aBp {F:fM} {a b c:Int} (h:fR F):fR (F.take C a b c).1/\nR (F.take C a b c).2.1:=by
 unfold fM.take;split;exact⟨h,V0⟩;dsimp only;split;exact⟨h,V0⟩;refine⟨uz h fun x e=>h _ _ x (List.mem_of_mem_eraseIdx e),?_⟩;dsimp only;rw[List.getD_eq_getElem?_getD];cases e:(F a.toNat b.toNat)[(c % ((F a.toNat b.toNat).length:Int)).toNat]? with
 |none=>exact V0
 |some x=>exact h _ _ x (List.mem_of_getElem? e)
theorem aLu {s:aX} (a:sR s):(vM s.prog s.at').fU:=by
 unfold vM;rw[List.getD_eq_getElem?_getD];cases hx:s.prog[s.at'.toNat]? with
 |none=>exact⟨gC,gC,gC⟩
 |some x=>exact a.p x (List.mem_of_getElem? hx)
theorem aK9 {s:aX} {i:Nat} {x:Ins} {w v c:Int} (a:s.Ok) (f:sR s) (j:x=vM s.prog s.at') (e:s.over=false) (n:i<1000) (h:fU w) (g:fU v) (hc:fU c):eR (aX.ev s i x w v c):=by
 intro y b;have m:=(Wh (a.2.2.2.2 _ (J4 a.1 (Mz a e).2))).1;have k:=a.1;have l:=a.2.1;simp only[evL,aX.ev,List.mem_cons,List.not_mem_nil,or_false] at b;rcases b with rfl|rfl|rfl|rfl|rfl|rfl|rfl;exact Jr (by omega);exact Jr (by omega);subst j;exact Jr (by omega);exact f.w;exact h;exact g;exact hc
theorem Ri {s:aX} {i v:Int} (a:sR s) (b:fU v):sR (s.dX i v):=⟨fun k=>by
 show fU (bY s.eB i.toNat v k);unfold bY;split;exact b;exact a.r k,a.w,a.p⟩
theorem tN {s:aX} {a:Int} (b:sR s):sR (s.rA a):=⟨b.r,b.w,b.p⟩
theorem yl {s:aX} {x:Ins} (h:aX.next? s=some x):x=vM s.prog s.at'/\s.over=false:=by
 unfold aX.next? at h;split at h;cases h;cases h;exact⟨rfl,by simpa using‹¬s.over=true›⟩
theorem aA5 {s:aX} {i:Nat} {r:aX×Ev} (n:s.Ok) (e:sR s) (m:i<1000) (h:aX.mT s i=some r):sR r.1/\eR r.2:=by
 unfold aX.mT at h;split at h;cases h
 .rename_i x f;obtain⟨k,l⟩:=yl f;have f:=aLu e;rw[<-k] at f;have g:=fun {w v c:Int} (a:fU w) (b:fU v) (d:fU c)=>aK9 (i:=i) n e k l m a b d;have j:fU 18:=Jr (by omega);repeat' split at h
  all_goals first|cases h|skip
  all_goals first
   |exact⟨tN (Ri e f.2.1),g gC f.2.1 gC⟩
   |exact⟨tN (Ri e (y0 _)),g gC (y0 _) gC⟩
   |exact⟨tN e,g gC gC gC⟩
   |exact⟨tN (s:=s.zc x.a) ⟨e.r,f.1,e.p⟩,g gC f.1 gC⟩
   |exact⟨tN e,g gC f.1 j⟩
   |exact⟨tN e,g gC f.1 gC⟩
   |exact⟨tN e,g gC (e.r _) gC⟩
theorem xh:eR Fw:=by
 intro y a;simp only[evL,Fw,List.mem_cons,List.not_mem_nil,or_false] at a;have:y=0:=by omega
 rw[this];exact gC
theorem w8 {s:aX} {i:Nat} {v c:Int} (m:s.Ok) (e:sR s) (l:i<1000) (h:fU v) (hc:fU c):sR (aX.cC s i v c).1/\eR (aX.cC s i v c).2.1:=by
 unfold aX.cC;split;exact⟨e,xh⟩;rename_i x n;obtain⟨j,k⟩:=yl n;have f:=fun {w v c:Int} (a:fU w) (b:fU v) (d:fU c)=>aK9 (i:=i) m e j k l a b d;have g:fU 19:=Jr (by omega);split;exact⟨tN (Ri e hc),f (e.r _) (e.r _) hc⟩;split;split;exact⟨e,xh⟩;split;exact⟨tN e,f (e.r _) gC g⟩;split;exact⟨tN e,f (e.r _) (e.r _) gC⟩;exact⟨tN (Ri e h),f (e.r _) h gC⟩;exact⟨e,xh⟩
theorem aBw {α:Type} {P:α->Prop} {s:Nat->α} {i:Nat} {t:α} (h:∀j,P (s j)) (a:P t):∀j,P (bY s i t j):=by
 intro j;unfold bY;split;exact a;exact h j
theorem DR.Ho (h:DR M) {i:Nat} {c:aX} (hc:sR c):DR (M.Ho i c):={h with vF:=aBw h.vF hc}
theorem DR.qF (h:DR M) {i:Nat} {c:lE} (hc:cR c):DR (M.qF i c):={h with Hh:=aBw h.Hh hc}
theorem DR.Hu (h:DR M) {v:Ev} (b:eR v):DR (M.Hu v):={h with log:=fun x a=>(List.mem_append.1 a).elim (h.log x) fun a=>by rw[List.mem_singleton.1 a];exact b}
theorem aDf {m:Mon} {a:Mc.Ask}:fU (m.call C.aG a).2.2:=by
 have b:∀c w o t,fU (mA c w o t).2.2:=fun c w o t=>by
  unfold mA;repeat' split
  all_goals exact Jr (by dsimp only;omega)
 unfold Mon.call;dsimp only;repeat' split
 all_goals first|exact b _ _ _ _|exact Jr (by dsimp only;omega)
theorem wU (b:eK C N M) (hC:C.Ok) (h:DR M) {i:Nat} {v c:Int} (f:(i:Int)<C.aG) (g:fU v) (hc:fU c):DR (M.cC i v c).1:=by
 have e:=hC.1;unfold cN.cC;dsimp only;have a:=w8 (b.vF i f) (h.vF i) (i:=i) (by omega) g hc;split;exact h;exact(h.Ho a.1).Hu a.2
theorem aG6 (c:eK C N M) (hC:C.Ok) (h:DR M) {a:Int}:DR (M.step C a).1:=by
 have t:=hC.1;unfold cN.step;split;exact h;rename_i q;have q:0<=a/\a<C.aG:=Decidable.not_not.1 q;have e:((a.toNat:Nat):Int)<C.aG:=by omega
 dsimp only;split;exact h;split;exact h;split;rename_i r u;have:=aA5 (c.vF _ e) (h.vF _) (by omega) u;exact(h.Ho this.1).Hu this.2;split;unfold cN.call;dsimp only;split;exact wU c hC h e gC aDf;split;exact h;have v:fR (M.jT.send C (Hj C.aG (by assumption:Mc.Ask).cE)).1:=Ke h.jT fun n j=>by
  unfold Hj at j;obtain⟨k,_,rfl⟩:=List.mem_map.1 j;exact V0
 exact {h with jT:=v};split;rename_i b f;have m:fU b.value:=by
  unfold aX.Ej at f;split at f;cases f;split at f;cases f;dsimp only;split;exact gC;exact(h.vF _).r _;cases f
 have i:fU 19:=Jr (by omega);unfold cN.access;split;exact wU c hC h e gC i;dsimp only;split;exact h;split;unfold cN.walk;dsimp only;split;exact h;split;exact h;exact {h with jT:=Ke h.jT fun n j=>by rw[List.mem_singleton.1 j];exact V0};split;exact wU c hC h e gC i;split;unfold cN.want;dsimp only;have s:=fun {l w wr}=>aFb (C:=C) (core:=(a.toNat:Int)) (l:=l) (w:=w) (wr:=wr) (h.Hh a.toNat);split;exact h;split;exact h;exact {h with jT:=Ke h.jT s.2,Hh:=aBw h.Hh s.1};unfold cN.Wn;dsimp only;have p:∀{l g o},cR (if b.read=true then rN C (M.cX a.toNat) l g o else M.cX a.toNat):=fun {l g o}=>by
  split;exact aCt (h.Hh _);exact h.Hh _
 refine wU (N:=N) ?_ hC (h.qF ?_) e ?_ gC;refine c.qF ?_;have g1:∀{l g o},mL C (if b.read=true then rN C (M.cX a.toNat) l g o else M.cX a.toNat):=fun {l g o}=>by
  split;exact Gd (c.Hh _ e);exact c.Hh _ e
 split;exact Lb g1;exact g1;split;exact yo p m;exact p;split;exact oy (h.Hh _);exact gC;exact h
theorem aC7 (b:eK C N M) (hC:C.Ok) (h:DR M) {n:aK} (c:nR n):DR (M.fT C n).1/\∀x∈(M.fT C n).2.1,nR x:=by
 have e:=hC.2.1;have i:=b.dS.len;have one:∀{y:aK},nR y->∀x∈[y],nR x:=fun g x f=>by rw[List.mem_singleton.1 f];exact g
 unfold cN.fT;split;have:=mc (C:=C) h.home c;exact⟨{h with home:=this.1},this.2⟩;split;have:=aDj (C:=C) (core:=n.core) (h.Hh n.core.toNat) c;exact⟨h.qF this.1,this.2⟩;split;refine⟨h,one ⟨?_,gC⟩⟩;have:=Vs (es:=M.dS.fY) (by omega) b.dS.own (a:=n.no);exact Jr (by show -1000000<=(sQ M.dS.fY n.no).1/\(sQ M.dS.fY n.no).1<=1000000;omega);split;refine⟨{h with},?_⟩;dsimp only;split;simp;exact one V0;split;exact⟨{h with},one V0⟩;split;refine⟨?_,by simp⟩;dsimp only;split;exact {h with home:=Ma (Ma h.home)};exact {h with};exact⟨h,by simp⟩
theorem aJw (f:eK C N M) (hC:C.Ok) (h:DR M) {d:Do}:DR (M.vJ C d).1:=by
 have m:=hC.1;unfold cN.vJ;split;exact aG6 f hC h;split;unfold cN.uN;dsimp only;have i:=aBp (C:=C) (a:=d.a) (b:=d.b) (c:=d.c) h.jT;have e:=aC7 f hC h i.2;split;exact h;split;exact h;split;exact h;exact {e.1 with jT:=Ke i.1 e.2};split;unfold cN.begin;dsimp only;have e:=Yd (C:=C) (l:=d.a) (j:=M.W7 C d.a) h.home;split;exact h;split;exact h;exact {h with jT:=Ke h.jT e.2,home:=e.1};split;obtain⟨e,k⟩:=Mf (g:=d.a) f.dS;unfold cN.finish;split;exact h;split;exact h;dsimp only;split;exact h;rename_i u n;have o:=k u n;refine wU (N:=N) ?_ hC ?_ (by omega) gC gC;split;exact(f.sC e).rX (Nat.le_refl N) (P1 f.home);exact f.sC e;split;exact {h with home:=aAi h.home};exact {h with};exact h
theorem aJe {ps:List (List Ins)} {ws os vs:List Int} (o:∀p∈ps,∀x∈p,x.fU) (r:∀w∈ws,fU w) (b:∀v∈vs,fU v):DR (MC.new ⟨C,ps,ws,os,vs⟩):=by
 have g:∀{l:List Int} {i:Nat},(∀v∈l,fU v)->fU (l.getD i 0):=fun {l i} h=>by
  rw[List.getD_eq_getElem?_getD];cases a:l[i]? with
  |none=>exact gC
  |some x=>exact h x (List.mem_of_getElem? a)
 have j:∀(l:List Int) (mem:Nat->Ln) (i:Nat),(∀v∈l,fU v)->(∀k,lR (mem k))->∀k,lR (At.words mem l i k):=by
  intro l;induction l with
  |nil=>intro mem i _ e;exact e
  |cons v l s=>
   intro mem i m e;refine s _ _ (fun x a=>m x (List.mem_cons_of_mem _ a)) ?_;unfold Wy;refine aBw e ?_;have b:=m v List.mem_cons_self;split;exact⟨b,(e _).2⟩;exact⟨(e _).1,b⟩
 refine⟨fun i=>⟨fun k=>gC,g r,?_⟩,fun i=>⟨fun i t q=>(by cases q),gC,gC⟩,fun l=>⟨?_,j vs _ 0 b (fun k=>?_) l⟩,fun c w n f=>(by cases f),fun v b=>(by cases b)⟩;show∀x∈ps.getD i [],x.fU;rw[List.getD_eq_getElem?_getD];cases a:ps[i]? with
 |none=>exact fun x a=>by cases a
 |some p=>exact o p (List.mem_of_getElem? a)
 show wR (qX C.lines l).1;unfold qX;split;exact⟨⟨gC,gC⟩,fun n f=>by cases f⟩;exact⟨⟨gC,gC⟩,fun n f=>by cases f⟩;exact⟨gC,gC⟩
theorem xj (hC:C.Ok):∀{l:List Do} {N:Nat} {M:cN},eK C N M->DR M->DR (M.runs C l)
 |[],_,_,_,h=>h
 |_d::l,_N,_M,a,h=>xj hC (l:=l) (yy a hC) (aJw a hC h)
end
end Go.Mc
namespace Go.Ab
open Go Go.RowKit Go.ChangeShapes Go.WideShapes Go.ChangeAt
section
variable {P:Program} {H:Type} {enc:TypeId×Value->H} {w:World} {base:Nat} {spare:Nat->Bool} {held:Bool}
theorem aBo {ρ:hU} {v:Value}:aE ρ top v:=by simp[top,aE]
theorem fy {ρ:hU}:∀{l c:List Value},l.length=c.length->(∀(j:Nat) (u v:Value),l[j]?=some u->c[j]?=some v->aE ρ u v)->aR ρ l c
 |[],[],_,_=>aR.nil
 |u::l,v::c,h,k=>aR.cons (k 0 u v rfl rfl) (fy (by simpa using h) fun j a b e f=>k (j+1) a b (by simpa using e) (by simpa using f))
 |[],_::_,h,_=>by simp at h
 |_::_,[],h,_=>by simp at h
def aEz (P:Program) (w:World) (ρ:hU) (r:OB):Prop:=
 (∀o,r.1=some o->∀b s,r.2=some (b,s)->∃a,w.heap[b]?=some a/\tX P ρ s o a)/\(∀b s,r.2=some (b,s)->b<w.heap.size)
theorem Zh.at' {r:OB} (h:Zh P w r) (ρ:hU):aEz P w ρ r:=⟨fun o f b s e=>let⟨g,a,c⟩:=h.1 o f b s e;⟨g,a,c ρ⟩,h.2⟩
theorem nr {g:Nat} {gl:Nat->Option mR} {rs:List OB} (q:P.globals.size<=g) (n:g<=w.heap.size) (e:aA8 P g gl w) (j:∀r∈rs,aEz P w (rH g rs) r):Reads P (g+rs.length) (yM g gl rs) (rH g rs) w where
 mO:=fun i o f c b s a=>by
  have m:=a;unfold yM at c;unfold rH at a;split at c;rename_i h;rw[aNa h] at a;cases a;obtain⟨p,k,l⟩:=e i o h c;exact⟨p,k,l _⟩;rename_i h;rw[aN9 h] at a;rw[List.getElem?_eq_getElem (by omega)] at c a;exact(j _ (List.getElem_mem (by omega))).1 o c b s a
 low:=fun i b s f a=>by
  unfold rH at a;split at a;cases a;omega;rw[List.getElem?_eq_getElem (by omega)] at a;exact(j _ (List.getElem_mem (by omega))).2 b s a
 none:=fun i f=>by unfold rH;rw[aab,List.getElem?_eq_none (by omega)];rfl
 nT:=fun i f=>by unfold rH;rw[aae]
def Er (h:List (Option IntKind)) (w:World) (a:Option Addr) (len cap:Nat):Prop:=
 (a=none/\len=0/\cap=0)\/(∃x,a=some x/\len=0)\/
 ∃x cc e g,a=some x/\0<len/\x.spot=none/\len<=cap/\w.heap[x.block]?=some (.cells cc e g)/\x.off+len<=cc.size/\
  ∀i,i<len->∃b f c,cc.toList[x.off+i]?=some (.slice b f c)/\lL h w b f c
theorem lg {t e e2:TypeId} {n fuel:Nat} {r:List (Option IntKind)} {cs:List Value} {x:DataW H×List MemPlace} (U:P.underlying t=some (.slice e)) (O:P.underlying e=some (.slice e2)) (Q:tF P n e2=some r) (A:P.cellsOf e2=r.length) (hc:P.cellsOf e=1) (K:0<r.length)
  (h:DataW.trod enc P w base spare held fuel t cs=some x):∃a len k,cs=[.slice a len k]/\len<=maxLen/\Er r w a len k:=by
 rcases DataW.trod_slice U h with⟨rfl,_⟩|⟨a,len,k,elems,rest,m,_,rfl,_,v,R,W,G,D,_,_⟩
 .exact⟨none,0,0,rfl,Nat.zero_le _,.inl ⟨rfl,rfl,rfl⟩⟩
 refine⟨some a,len,k,rfl,by omega,?_⟩
 rcases Nat.eq_zero_or_pos len with z|z
 .exact .inr (.inl ⟨a,rfl,z⟩)
 refine .inr (.inr ?_)
 have each:∀i,i<len->∃f j g,w.cell? (a.add i)=some (.slice f j g)/\lL r w f j g:=by
  intro i E;have p:=D i E;rw[List.getElem?_eq_getElem (by omega),hc,Option.bind_eq_some_iff] at p;obtain⟨c,l,V⟩:=p;obtain⟨f,j,g,B,S⟩:=O6 O Q A K V;subst B;refine⟨f,j,g,?_,S⟩;unfold World.cells? at l;split at l;have:=mapM_some_get l 0 0 (by simp);rw[Nat.mul_one] at this;have J:(a.add i).add 0=a.add i:=rfl;rw[J] at this;simpa using this;cases l
 obtain⟨a0,X,c0,b,T⟩:=each 0 z
 obtain⟨cc,I,s,v,y⟩:∃cc e s,w.heap[a.block]?=some (.cells cc e s)/\a.spot=none:=by
  have F:a.add 0=a:=rfl;rw[F] at b;unfold World.cell? at b;split at b;rename_i c e s v;split at b;cases b;rename_i y;exact⟨c,e,s,v,by simpa using y⟩;cases b
 have q:∀o,w.cell? ⟨a.block,o,none⟩=cc[o]?:=by
  intro o;unfold World.cell?;rw[v];simp
 have u:∀i,i<len->∃f j g,cc.toList[a.off+i]?=some (.slice f j g)/\lL r w f j g:=by
  intro i E;obtain⟨f,j,g,p,L⟩:=each i E;rw[Yq y,q] at p;exact⟨f,j,g,by rw[Array.getElem?_toList];exact p,L⟩
 refine⟨a,cc,I,s,rfl,z,y,R,v,?_,u⟩
 obtain⟨f,j,g,p,_⟩:=u (len - 1) (by omega)
 have:=(List.getElem?_eq_some_iff.1 p).1
 simp at this
 omega
theorem Jg {W:World} {t:TypeId} {fs:Array Field} {i:Nat} {f:Field} {l:List Value} {d:DataW H} {p:List MemPlace} {n:Nat} {j:List (Option IntKind)} (o:P.underlying t=some (.struct fs)) (e:fs[i]?=some f) (k:tF P n f.type=some j)
  (h:DataW.Trod enc P W 0 (fun _=>true) true t (.agg ⟨l⟩) d p):Flat j ((l.drop f.offset).take (P.cellsOf f.type)):=by
 obtain⟨fuel,b⟩:=h
 obtain⟨r,m,_,_,s,q,a⟩:=DataW.trod_struct o b
 have g:=a i f e
 have c:i<r.length:=by rw[q];exact(Array.getElem?_eq_some_iff.1 e).1
 rw[List.getElem?_eq_getElem c] at g
 have:=P3 n k g
 simpa [Value.cells] using this
theorem Lm {W:World} {t e e2:TypeId} {fs:Array Field} {i:Nat} {f:Field} {l:List Value} {d:DataW H} {p:List MemPlace} {n:Nat} {j:List (Option IntKind)} (D:P.underlying t=some (.struct fs)) (r:fs[i]?=some f)
  (E:P.underlying f.type=some (.slice e)) (q:P.underlying e=some (.slice e2)) (v:P.cellsOf f.type=1) (x:P.cellsOf e=1) (y:tF P n e2=some j) (hc:P.cellsOf e2=j.length) (u:0<j.length)
  (h:DataW.Trod enc P W 0 (fun _=>true) true t (.agg ⟨l⟩) d p):∃a len b,l[f.offset]?=some (.slice a len b)/\len<=maxLen/\Er j W a len b:=by
 obtain⟨fuel,k⟩:=h
 obtain⟨G,m,_,_,J,F,c⟩:=DataW.trod_struct D k
 have s:=c i f r
 have o:i<G.length:=by rw[F];exact(Array.getElem?_eq_some_iff.1 r).1
 rw[List.getElem?_eq_getElem o] at s
 obtain⟨a,len,b,g,A,B⟩:=lg E q y hc x u s
 refine⟨a,len,b,?_,A,B⟩
 rw[v] at g
 have I:(Value.cells (.agg ⟨l⟩)).toList=l:=by simp[Value.cells]
 have:=congrArg (fun z=>z[0]?) g
 simpa [Value.cells] using this
structure aJq (P:Program) (w:World) (ks:List (Option IntKind)) (k0:Nat) (a:Option Addr) (len cap:Nat) (r:OB) (rs:List OB) (t:Nat->Value) (vs:List Value) (ns:List Nat) (at':Nat->Nat->List Value):Prop where
 ok:∀x∈rs,Zh P w x
 out:∀ρ:hU,(∀i x,rs[i]?=some x->ρ (k0+i)=x.2)->aEz P w ρ r
 rel:∀ρ k,ρ k=r.2->aE ρ (t k) (.slice a len cap)
 lvs:vs.length=len
 jT:ns.length=len
 flat:∀i n,ns[i]?=some n->∀j,j<n->Flat ks (at' i j)
 old:∀(G:Bg) k,k<G.base->G.old k=r.1->(∀i x,rs[i]?=some x->k0+i<G.base/\G.old (k0+i)=x.1)->
  kU G 1 (t k) len (fun i=>[vs.getD i undef])/\Vd G (t k) len/\∀i v n,vs[i]?=some v->ns[i]?=some n->kU G ks.length v n (at' i)/\Vd G v n
theorem qt (P:Program) {A:List (Option IntKind)} {a:Option Addr} {len cap:Nat} (l:Nat) (h:Er A w a len cap):∃r rs t vs ns at',aJq P w A l a len cap r rs t vs ns at':=by
 rcases h with⟨rfl,rfl,rfl⟩|⟨x,rfl,rfl⟩|⟨x,cc,e,K,rfl,h0,W,hl,T,α,hf⟩;exact⟨(none,none),[],fun _=> .slice none 0 0,[],[],fun _ _=>[],⟨fun x S=>(by cases S),fun ρ _=>⟨fun o h=>(by cases h),fun b s h=>(by cases h)⟩,fun ρ k _=>(by simp only[aE]),rfl,rfl,fun i n p=>(by simp at p),fun G k _ _ _=>⟨⟨none,0,rfl,fun i c=>(by omega)⟩,.inl ⟨rfl,rfl⟩,fun i v n f=>(by simp at f)⟩⟩⟩;refine⟨(none,none),[],fun _=> .slice (some ⟨0,0,some 0⟩) 0 0,[],[],fun _ _=>[],⟨fun x S=>(by cases S),fun ρ _=>⟨fun o h=>(by cases h),fun b s h=>(by cases h)⟩,fun ρ k _=>?_,rfl,rfl,fun i n p=>(by simp at p),fun G k _ _ _=>⟨⟨some ⟨0,0,some 0⟩,0,rfl,fun i c=>(by omega)⟩,.inr (.inl ⟨rfl,rfl⟩),fun i v n f=>(by simp at f)⟩⟩⟩;simp only[aE];exact⟨trivial,trivial,x,cap,fun h=>by omega,fun h=>by omega,rfl⟩;have D:∀i,∃(y:OB×(Nat->Value)×(Nat->List Value)×Nat×Value),i<len->cc.toList[x.off+i]?=some y.2.2.2.2/\Zh P w y.1/\(∀ρ k,ρ k=y.1.2->aE ρ (y.2.1 k) y.2.2.2.2)/\(∀j,j<y.2.2.2.1->Flat A (y.2.2.1 j))/\
   ∀(G:Bg) k,k<G.base->G.old k=y.1.1->kU G A.length (y.2.1 k) y.2.2.2.1 y.2.2.1/\Vd G (y.2.1 k) y.2.2.2.1:=by
  intro i
  by_cases c:i<len
  .obtain⟨a',Z,c',m,L⟩:=hf i c;obtain⟨r,t,O,h4,at',h5,h6⟩:=Ac P L;exact⟨(r,t,at',Z,.slice a' Z c'),fun _=>⟨m,O,h4,h5,h6⟩⟩
  .exact⟨((none,none),fun _=>undef,fun _=>[],0,undef),fun h=>absurd h c⟩
 obtain⟨Y,F⟩:∃Y:Nat->OB×(Nat->Value)×(Nat->List Value)×Nat×Value,∀i,i<len->cc.toList[x.off+i]?=some (Y i).2.2.2.2/\Zh P w (Y i).1/\(∀ρ k,ρ k=(Y i).1.2->aE ρ ((Y i).2.1 k) (Y i).2.2.2.2)/\(∀j,j<(Y i).2.2.2.1->Flat A ((Y i).2.2.1 j))/\
   ∀(G:Bg) k,k<G.base->G.old k=(Y i).1.1->kU G A.length ((Y i).2.1 k) (Y i).2.2.2.1 (Y i).2.2.1/\Vd G ((Y i).2.1 k) (Y i).2.2.2.1:=
  ⟨fun i=>(D i).choose,fun i c=>(D i).choose_spec c⟩
 have q:∀{α:Type} (g:Nat->α) (i:Nat) (z:α),((List.range len).map g)[i]?=some z->i<len/\z=g i:=by
  intro α g i z J;have c:i<len:=by have:=(List.getElem?_eq_some_iff.1 J).1;simpa using this
  rw[List.getElem?_map,List.getElem?_range c] at J;simp only[Option.map_some,Option.some.injEq] at J;exact⟨c,J.symm⟩
 refine⟨(some (.cells ((List.range cc.size).map fun j=>if x.off<=j/\j<x.off+len then(Y (j - x.off)).2.1 (l+(j - x.off)) else top) e K false),some (x.block,(0,0))),(List.range len).map fun i=>(Y i).1,fun k=> .slice (some ⟨k,x.off,none⟩) len cap,
     (List.range len).map fun i=>(Y i).2.1 (l+i),(List.range len).map fun i=>(Y i).2.2.2.1,fun i=>(Y i).2.2.1,⟨?_,?_,?_,by simp,by simp,?_,?_⟩⟩
 intro y hy;obtain⟨i,c,rfl⟩:=List.mem_map.1 hy;exact(F i (List.mem_range.1 c)).2.1;intro ρ hρ;refine⟨fun o ho b s E=>?_,fun b s E=>?_⟩;cases ho;cases E;refine⟨_,T,cc,rfl,?_,by simp,fun h=>by cases h⟩;rw[List.drop_zero,List.take_of_length_le (by simp)];refine fy (by simp) fun j u v I f=>?_;rw[List.getElem?_map] at I;have Q:j<cc.size:=by have:=(List.getElem?_eq_some_iff.1 f).1;simpa using this
 rw[List.getElem?_range Q] at I;simp only[Option.map_some,Option.some.injEq] at I;subst I;split;rename_i hc;obtain⟨m,_,O,_,_⟩:=F (j - x.off) (by omega);rw[show x.off+(j - x.off)=j by omega,f] at m;simp only[Option.some.injEq] at m;rw[m];refine O ρ _ (hρ (j - x.off) _ ?_);rw[List.getElem?_map,List.getElem?_range (by omega)];rfl;exact aBo;cases E;exact(Array.getElem?_eq_some_iff.1 T).1;intro ρ k E;simp only[aE];exact⟨x.block,(0,0),cap,E,Nat.le_refl _,by simp,by cases x;simp at W;subst W;rfl⟩;intro i n p j Q;obtain⟨c,rfl⟩:=q _ i n p;exact(F i c).2.2.2.1 j Q;intro G k V U B;refine⟨⟨_,_,rfl,fun i c=>⟨k,x.off,_,rfl,⟨V,e,K,false,U⟩,?_,by simp;omega⟩⟩,.inr (.inr ⟨k,x.off,cap,_,e,K,rfl,h0,hl,V,U⟩),fun i v n f p=>?_⟩;have X:x.off+i*1<cc.size:=by omega
 have R:x.off+i*1<((List.range cc.size).map fun j=>if x.off<=j/\j<x.off+len then(Y (j - x.off)).2.1 (l+(j - x.off)) else top).length:=by simp;omega
 rw[List.drop_eq_getElem_cons R,List.take_succ_cons,List.take_zero];have e1:((List.range len).map fun i=>(Y i).2.1 (l+i)).getD i undef=(Y i).2.1 (l+i):=by
  rw[List.getD_eq_getElem?_getD,List.getElem?_map,List.getElem?_range c];rfl
 show[_]=[((List.range len).map fun i=>(Y i).2.1 (l+i)).getD i undef];rw[e1];simp only[List.getElem_map,List.getElem_range];rw[aae,show x.off+i*1 - x.off=i by omega];obtain⟨c,rfl⟩:=q _ i v f;obtain⟨_,rfl⟩:=q _ i n p;obtain⟨m,L⟩:=B i (Y i).1 (by rw[List.getElem?_map,List.getElem?_range c];rfl);exact(F i c).2.2.2.2 G (l+i) m L
end
end Go.Ab
namespace Go.Mc
open Go Go.Ab Go.Hm Go.At Go.Is Go.Ct Go.Nt Go.Sc
section
variable {C:bM} {N:Nat} {M:cN}
def cN.iG (C:bM) (M:cN):List Do->Nat
 |[]=>0
 |d::l=>(if(M.vJ C d).2=0 then 1 else 0)+cN.iG C (M.vJ C d).1 l
theorem N9 {d:Do} {l:List Do}:M.runs C (d::l)=(M.vJ C d).1.runs C l:=rfl
theorem Vt {l k:List Do}:M.runs C (l++k)=(M.runs C l).runs C k:=by unfold cN.runs;rw[List.foldl_append]
theorem P4 {l:List Do} {i:Nat} {d:Do} (h:l[i]?=some d):((M.runs C (l.take i)).vJ C d).1=M.runs C (l.take (i+1)):=by
 rw[List.take_add_one,h,Vt];rfl
theorem Fy:∀{l k:List Do} {M:cN},M.iG C (l++k)=M.iG C l+(M.runs C l).iG C k
 |[],k,M=>by show _=0+_;rw[Nat.zero_add];rfl
 |d::l,k,M=>by
  show(if(M.vJ C d).2=0 then 1 else 0)+cN.iG C (M.vJ C d).1 (l++k)=_;rw[Fy];show _=(if(M.vJ C d).2=0 then 1 else 0)+cN.iG C (M.vJ C d).1 l+_;rw[N9];omega
theorem Js {l:List Do} {i:Nat} {d:Do} (h:l[i]?=some d):M.iG C (l.take (i+1))=M.iG C (l.take i)+if((M.runs C (l.take i)).vJ C d).2=0 then 1 else 0:=by
 rw[List.take_add_one,h,Fy];rfl
theorem qD:∀{l:List Do} {M:cN},M.iG C l<=l.length
 |[],_=>Nat.le_refl _
 |d::l,M=>by
  have:=qD (l:=l) (M:=(M.vJ C d).1);show(if(M.vJ C d).2=0 then 1 else 0)+cN.iG C (M.vJ C d).1 l<=l.length+1;split<;>omega
theorem az {l:List Do} {n:Nat} (e:n<=l.length):M.iG C (l.take n)<=M.iG C l/\n - M.iG C (l.take n)<=l.length - M.iG C l:=by
 have a:=Fy (C:=C) (l:=l.take n) (k:=l.drop n) (M:=M);rw[List.take_append_drop] at a;have b:=qD (C:=C) (l:=l.drop n) (M:=M.runs C (l.take n));have c:=qD (C:=C) (l:=l.take n) (M:=M);rw[List.length_drop] at b;rw[List.length_take] at c;omega
theorem aA3 {S:Nat->aX} (hC:C.Ok) (h:cj C S N M) {d:Do}:∃t,(M.vJ C d).1.log=M.log++t:=by
 have k:=ee (d:=d) hC h.inv h.wait;cases k with
 |same b a c=>exact⟨[],by rw[a,List.append_nil]⟩
 |ev i s v f e m b a j l c=>exact⟨_,a⟩
 |ask i g f e m b a q c=>exact⟨[],by rw[a,List.append_nil]⟩
 |fin i g s v f e o b a j p n l c=>exact⟨_,a⟩
theorem W6 {S:Nat->aX} (hC:C.Ok):∀{l:List Do} {N:Nat} {M:cN},cj C S N M->∃t,(M.runs C l).log=M.log++t
 |[],_,M,_=>⟨[],by rw[List.append_nil];rfl⟩
 |d::l,N,M,h=>by
  obtain⟨t,e⟩:=aA3 (d:=d) hC h;obtain⟨u,a⟩:=W6 hC (l:=l) (h.vJ (d:=d) hC);exact⟨t++u,by rw[N9,a,e,List.append_assoc]⟩
theorem rf {S:Nat->aX} (hC:C.Ok) (h:cj C S N M) {l:List Do} {n:Nat}:∃t,(M.runs C l).log=(M.runs C (l.take n)).log++t:=by
 have e:M.runs C l=(M.runs C (l.take n)).runs C (l.drop n):=by rw[<-Vt,List.take_append_drop]
 rw[e];exact W6 hC (h.runs hC)
theorem Wu {d:Do}:(M.tH C [d] 0).2=if(M.vJ C d).2=0 then(1,0) else(0,(M.vJ C d).2):=by
 unfold cN.tH;by_cases h:(M.vJ C d).2=0;rw[aN9 (fun n=>n h),aNa h];rfl;rw[aNa h,aN9 h]
end
end Go.Mc
