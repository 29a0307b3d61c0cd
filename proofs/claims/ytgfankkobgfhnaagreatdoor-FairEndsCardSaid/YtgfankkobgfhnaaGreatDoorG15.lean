/- A part of the proof. -/
import Derived.Test.YtgfankkobgfhnaaGreatDoorG14
import Derived.Test.YtgfankkobgfhnaaGreatDoorG13
import Derived.Test.YtgfankkobgfhnaaGreatDoorG9
set_option linter.all false
open Go Go.Ab
variable {g i k w:Nat} {a aB c o v:Int} {b:Bool}
namespace Go.Mc
open Go.Hm Go.At Go.Is Go.Ct Go.Nt
variable {C:bQ} {F:eN}
theorem X3 {α:Type} {f b:Nat->List α} {l:List α}:∀{n:Nat},(∀i,i≠k->b i=f i)->(b k).Perm (l++f k)->k<n->((List.range n).flatMap b).Perm (l++(List.range n).flatMap f):=by
 intro n;induction n with
 |zero=>intro _ _ h;omega
 |succ n p=>
  intro d j q;rw[dx,l9,l9,AU,AU];by_cases e:n=k;subst e;have:(List.range n).flatMap b=(List.range n).flatMap f:=by
   have:∀m,m<=n->(List.range m).flatMap b=(List.range m).flatMap f:=by
    intro m;induction m with
    |zero=>intro _;rfl
    |succ m g=>
     intro t;rw[dx,l9,l9,g FA,AU,AU,d m FA]
   grind
  rw[this];refine(List.Perm.append_left _ j).trans ?_;rw[<-ef,<-ef];exact List.Perm.append_right _ List.perm_append_comm;rw[d n e];rw[<-ef];exact List.Perm.append_right _<|p d j FA
def dL (C:bQ) (F:eN):IA:=(List.range C.aB.toNat).flatMap fun c=>(List.range 4).flatMap fun w=>F c w
def X5 {M:bR}:M.pg C=dL C M.cB:=rfl
theorem U6 {c:Nat} {l l':IA} (hc:(c:Int)<C.aB) (d:w<4) (h:l'.Perm (l++F c w)):(dL C<|F.set c w l').Perm (l++dL C F):=by
 refine X3 (k:=c) (fun i b=>?_) ?_ FA;unfold eN.set;simp[b];refine X3 (k:=w) (fun i b=>?_) ?_ d;unfold eN.set;simp[b];unfold eN.set;grind
theorem uP {n:aG} (h:n∈dL C F):∃c w:Nat,(c:Int)<C.aB/\w<4/\n∈F c w:=by
 unfold dL at h;grind
def rU (hF:Qf C F) {n:aG} (h:n∈dL C F):vz C n:=by
 obtain⟨c,w,_,_,b⟩:=uP h;exact(hF.yI c w n b).1
theorem xP {n:aG} (h:Nj n.kind):cN n<4:=by
 unfold Nj at h;unfold cN;rcases k14 (k:=n.kind.toNat) FA with e|e|e|e|e|e|e|e|e|e|e|e|e|e<;>rw[e]<;>decide
theorem aDt:∀{l:IA} {F F':eN},(∀n∈l,Nt.gE C n=0)->eN.xN C.eG F l=some F'->(dL C F').Perm (l++dL C F):=by
 intro l;induction l with
 |nil=>intro F F' _ h;cases h;grind
 |cons n l f=>
  intro F F' b h;unfold eN.xN at h;split at h;have d:=fI<|b n c9;have e:(dL C<|F.A4 n).Perm ([n]++dL C F):=U6 FA (xP d.1) List.perm_append_comm;grind;cases h
theorem gG {l:IA} (h:(F.fY C l).2=0):(dL C (F.fY C l).1).Perm (l++dL C F)/\∀n∈l,Nt.gE C n=0:=by
 unfold eN.fY at h ⊢;split at h;grind;rename_i b;rw[bA0 b];have b:aU C l=0:=GH
 split at h;rename_i F' d;exact⟨aDt (C4 b)<|by rw[d],C4 b⟩;cases h
def ni {α:Type}:∀{l:List α} {i:Nat} (h:i<l.length),l.Perm (l[i]::l.eraseIdx i)
 |[],_,h=>FH
 |a::l,0,_=>BQ _
 |a::l,i+1,h=>by
  exact(List.Perm.cons a<|ni (l:=l) (i:=i) HL).trans (List.Perm.swap _ _ _)
theorem oW {b:Int} (h:(F.take C a b c).2.2=0):(dL C F).Perm ((F.take C a b c).2.1::dL C (F.take C a b c).1):=by
 unfold eN.take at h ⊢;by_cases g:(0<=a/\a<C.aB)/\(0<=b/\b<4);rw[bA0 fun h=>h g] at h ⊢;by_cases d:F a.toNat b.toNat=[];rw[bA1 d] at h;cases h;rw[bA0 d];have p:0<(F a.toNat b.toNat).length:=DO.2 d;have f:(c % ((F a.toNat b.toNat).length:Int)).toNat<(F a.toNat b.toNat).length:=by
  have j:=BD c (show((F a.toNat b.toNat).length:Int)≠0 by omega);have k:=BW c (show(0:Int)<((F a.toNat b.toNat).length:Int) by omega);omega
 dsimp only;generalize(c % ((F a.toNat b.toNat).length:Int)).toNat=i at f ⊢;rw[aP,bj f];dsimp only[Option.getD];have e:F=(F.set a.toNat b.toNat<|(F a.toNat b.toNat).eraseIdx i).set a.toNat b.toNat (F a.toNat b.toNat):=by
  funext x y;unfold eN.set;by_cases e:x=a.toNat/\y=b.toNat;rw[bA1 e,e.1,e.2];rw[bA0 e,bA0 e]
 have:=U6 (C:=C) (F:=F.set a.toNat b.toNat<|(F a.toNat b.toNat).eraseIdx i) (c:=a.toNat) (w:=b.toNat) (l:=[(F a.toNat b.toNat)[i]]) (l':=F a.toNat b.toNat) FA FA (by
  have:(F.set a.toNat b.toNat<|(F a.toNat b.toNat).eraseIdx i) a.toNat b.toNat=(F a.toNat b.toNat).eraseIdx i:=by unfold eN.set;simp
  rw[this];exact ni f)
 grind;grind
def z6 (n g a w:Int):Prop:=(lT n g a w).2.2.2=0/\((lT n g a w).2.2.1=false->(lT n g a w).1=lK n g/\a=g/4)
variable {es:IP}
def aUc:(mZ es).length=(es.length+3)/4+es.length:=by unfold mZ;simp
theorem aIc {j:Nat} (h:j<(es.length+3)/4):kA es (j:Int)=(Vr es j,0):=by
 unfold kA;unfold mZ;grind
theorem aC1 (h:g<es.length):kA es (lK es.length g)=(Zk<|es.getD g pU,0):=by
 have e:lK es.length g=(((es.length+3)/4+g:Nat):Int):=by unfold lK;omega
 unfold kA;unfold mZ;grind
theorem aKc {j:Nat} (h:Ow es j=true) (b:g<es.length) (d:g/4=j):es.getD g pU=⟨(es.getD (4*j) pU).owner,false⟩:=by
 unfold Ow at h;have e:es.getD g pU∈(es.drop<|4*j).take 4:=by
  rw[aP,bj b];refine hX (i:=g - 4*j) ?_;grind
 grind
theorem aSp (d:∀x∈es,0<=x.owner/\x.owner<=4) (b:g<es.length):0<=(es.getD g pU).owner/\(es.getD g pU).owner<=4:=by
 grind
theorem Ya (z:es.length<=16) (v:∀x∈es,0<=x.owner/\x.owner<=4) (p:g<es.length) (t:a=(g:Int)/4\/a=lK es.length g):
  (kA es a).2=0/\z6 es.length g a (kA es a).1/\((lT es.length g a (kA es a).1).2.2.1=true->(lT es.length g a (kA es a).1).2.1=es.getD g pU):=by
 have b:¬¬((1<=(es.length:Int)/\(es.length:Int)<=16)/\(0<=(g:Int)/\(g:Int)<es.length)):=FA
 have w:(g:Int)/4≠lK es.length g:=by unfold lK;omega
 rcases t with rfl|rfl
 .have e:(g:Int)/4=((g/4:Nat):Int):=FA
  have q:=aIc (es:=es) (j:=g/4) FA
  rw[<-e] at q
  rw[q]
  refine⟨rfl,?_⟩
  unfold z6 lT
  rw[bA0 b,bA1 rfl]
  unfold Vr
  by_cases d:Ow es (g/4)=true
  .rw[bA1 d];have y:=aKc d p rfl;rw[aaa,bA1 ⟨FA,HK⟩];grind
  grind
 .rw[aC1 p];refine⟨rfl,?_⟩;unfold z6 lT;rw[bA0 b,bA0 fun h=>w h.symm,bA1 rfl];have u:=aSp v p;generalize B:es.getD g pU=x at u ⊢;obtain⟨o,k⟩:=x;cases k with
  |true=>
   have f:Zk ⟨o,true⟩=o+8:=rfl
   rw[f,bA0 HK,bA1 ⟨FB,HK⟩]
   grind
  |false=>
   have f:Zk ⟨o,false⟩=o:=rfl
   rw[f,bA1 HK]
   grind
variable {m:Mon} {N':IA}
section
def cw (i:Nat) (N:IA):Nat:=N.countP fun n=>decide<|n.core=(i:Int)/\(n.kind=6\/n.kind=12)
def cd (i g:Nat) (N:IA):Nat:=N.countP fun n=>decide<|n.core=(i:Int)/\n.no=(g:Int)/\(n.kind=13\/n.kind=7)
def nA (N:IA) (i g:Nat):Prop:=∃n∈N,n.kind=13/\n.core=(i:Int)/\n.no=(g:Int)
def Fa (m:Mon) (g i:Nat):Nat:=match m.eI g with
 |some r=>(r.aH i).toNat
 |none=>0
structure mB (C:bQ) (K:Nat->jL) (m:Mon) (N:IA):Prop where
 cw:∀i:Nat,(i:Int)<C.aB->cw i N=(K i).dP.toNat
 no:∀n∈N,n.kind=6\/n.kind=12->n.no=(K n.core.toNat).at'
 pl:∀i:Nat,(i:Int)<C.aB->(K i).dP=true->(K i).at'=(K i).aS/4\/(K i).at'=lK C.aJ (K i).aS
 dF:∀n∈N,n.kind=12->z6 C.aJ (K n.core.toNat).aS (K n.core.toNat).at' n.d0/\((K n.core.toNat).kJ=false->(lT C.aJ (K n.core.toNat).aS (K n.core.toNat).at' n.d0).2.2.1=true->(lT C.aJ (K n.core.toNat).aS (K n.core.toNat).at' n.d0).2.1.kM=false->
  (lT C.aJ (K n.core.toNat).aS (K n.core.toNat).at' n.d0).2.1.owner=(m.jW (K n.core.toNat).aS).owner/\((m.jW (K n.core.toNat).aS).kM=true->nA N n.core.toNat (K n.core.toNat).aS.toNat))
 bN:∀i:Nat,(i:Int)<C.aB->∀x∈(K i).bN,(0<=x.1/\x.1<C.aJ)/\x.2=(m.jW x.1).owner/\((m.jW x.1).kM=true->nA N i x.1.toNat)
 nd:∀i:Nat,(i:Int)<C.aB->((K i).bN.map (·.1)).Nodup/\((K i).dP=true->(K i).aS∉(K i).bN.map (·.1))
 gr:∀i:Nat,(i:Int)<C.aB->0<=(K i).aS/\(K i).aS<C.aJ
 vY:∀g:Nat,(g:Int)<C.aJ->((m.jW g).kM=true↔(m.eI g).isSome=true)
 cd:∀g i:Nat,(i:Int)<C.aB->cd i g N=Fa m g i
 nb:∀n∈N,KK n.kind->(0<=n.core/\n.core<C.aB)/\(n.kind=13\/n.kind=7->0<=n.no)
 ph:∀g r,m.eI g=some r->(r.phase=2↔r.none=true)/\∀i:Nat,C.aB<=(i:Int)->r.aH i=false
variable {K:Nat->jL} {N:IA} {n:aG}
theorem uQ:cw i (n::N)=cw i N+if n.core=(i:Int)/\(n.kind=6\/n.kind=12) then 1 else 0:=by
 unfold cw;grind
theorem rP:cd i g (n::N)=cd i g N+if n.core=(i:Int)/\n.no=(g:Int)/\(n.kind=13\/n.kind=7) then 1 else 0:=by
 unfold cd;grind
def aRd:cw i (N++N')=cw i N+cw i N':=u3
def aJs:cd i g (N++N')=cd i g N+cd i g N':=u3
def N4 (h:nA N i g) (f:∀x∈N,x.kind=13->x∈N'):nA N' i g:=by
 obtain⟨x,d,b,e⟩:=h;exact⟨x,f x d b,b,e⟩
def aN9 (h:nA N i g):0<cd i g N:=by
 obtain⟨x,b,d,e,f⟩:=h;exact AG.2 ⟨x,b,cL ⟨e,f,.inl d⟩⟩
theorem Zj (h:n∈N) (hc:n.core=(i:Int)) (b:n.kind=6\/n.kind=12):0<cw i N:=AG.2 ⟨n,h,cL ⟨hc,b⟩⟩
def mB.cH (h:mB C K m N) (p:N.Perm N'):mB C K m N':=by
 have em:∀x,x∈N'↔x∈N:=fun x=>p.symm.mem_iff;have d:∀i,Mc.cw i N'=Mc.cw i N:=fun i=>(p.countP_eq _).symm;have e2:∀i g,Mc.cd i g N'=Mc.cd i g N:=fun i g=>(p.countP_eq _).symm;have b:∀i g,nA N' i g↔nA N i g:=fun i g=>by unfold nA;simp only[em]
 constructor;simp only[d];exact h.cw;simp only[em];exact h.no;exact h.pl;simp only[em,b];exact h.dF;simp only[b];exact h.bN;exact h.nd;exact h.gr;exact h.vY;simp only[e2];exact h.cd;simp only[em];exact h.nb;exact h.ph
def mB.skip (h:mB C K m (n::N)) (f:¬KK n.kind):mB C K m N:=by
 unfold KK at f;have q:∀i,Mc.cw i N=Mc.cw i (n::N):=fun i=>by rw[uQ,aaa];rfl
 have e2:∀i g,Mc.cd i g N=Mc.cd i g (n::N):=fun i g=>by rw[rP,aaa];rfl
 have p:∀i g,nA (n::N) i g->nA N i g:=fun i g ⟨x,j,t,u⟩=>by
  rcases eD.1 j with rfl|j;omega;exact⟨x,j,t,u⟩
 have em:∀x,x∈N->x∈n::N:=fun x=>ca _;constructor;simp only[q];exact h.cw;exact fun x e=>h.no x<|em x e;exact h.pl;exact fun x e f=>⟨(h.dF x (em x e) f).1,fun a b c=>⟨((h.dF x (em x e) f).2 a b c).1,fun d=>p _ _<|((h.dF x (em x e) f).2 a b c).2 d⟩⟩;exact fun i k x e=>⟨(h.bN i k x e).1,(h.bN i k x e).2.1,fun d=>p _ _<|(h.bN i k x e).2.2 d⟩;exact h.nd;exact h.gr;exact h.vY;simp only[e2];exact h.cd;exact fun x e=>h.nb x<|em x e;exact h.ph
theorem mB.add (h:mB C K m N) (f:¬KK n.kind):mB C K m (n::N):=by
 unfold KK at f;have u:∀i,Mc.cw i (n::N)=Mc.cw i N:=fun i=>by rw[uQ,aaa];rfl
 have e2:∀i g,Mc.cd i g (n::N)=Mc.cd i g N:=fun i g=>by rw[rP,aaa];rfl
 have t:∀i g,nA N i g->nA (n::N) i g:=fun i g v=>N4 v fun x e _=>ca _ e;have em:∀x,x∈n::N->KK x.kind->x∈N:=fun x e q=>by
  rcases eD.1 e with rfl|e;exact absurd q (by exact f);exact e
 have j:∀{k:Int},k=6\/k=12->KK k:=fun h=>FR
 constructor;simp only[u];exact h.cw;exact fun x e f=>h.no x (em x e<|j f) f;exact h.pl;exact fun x e f=>⟨(h.dF x (em x e<|j<|.inr f) f).1,fun a b c=>⟨((h.dF x (em x e<|j<|.inr f) f).2 a b c).1,fun d=>t _ _<|((h.dF x (em x e<|j<|.inr f) f).2 a b c).2 d⟩⟩;exact fun i p x e=>⟨(h.bN i p x e).1,(h.bN i p x e).2.1,fun d=>t _ _<|(h.bN i p x e).2.2 d⟩;exact h.nd;exact h.gr;exact h.vY;simp only[e2];exact h.cd;exact fun x e f=>h.nb x (em x e f) f;exact h.ph
def mB.O5 (h:mB C K m N):∀{l:IA},(∀x∈l,¬KK x.kind)->mB C K m (l++N)
 |[],_=>h
 |_::_,b=>(mB.O5 h fun x d=>b x<|ca _ d).add<|b _ c9
theorem mB.kD (e:(es.length:Int)=C.aJ) (b:1<=C.aJ) (d:∀x∈es,x.kM=false):mB C (fun _=>Oj) ⟨es,fun _=>none⟩ []:=by
 constructor;case cw=>exact fun _ _=>rfl
 case no=>grind
 case pl=>exact fun _ _ h=>FH
 case dF=>grind
 case bN=>exact fun _ _ _ h=>FH
 case nd=>exact fun _ _=>⟨DW,fun h=>FH⟩
 case gr=>exact fun _ _=>⟨FC,by show(0:Int)<C.aJ;omega⟩
 case vY=>
  intro g b;unfold Mon.jW;grind
 case cd=>exact fun _ _ _=>rfl
 case nb=>grind
 grind
end
variable {x:Option Mc.mS}
section
variable {K:Nat->jL} {N:IA} {n:aG}
def K9 (h:n.core=(i:Int)):n.core.toNat=i:=FA
theorem mB.Cm {g:Int} (h:mB C K m N) (I:(i:Int)<C.aB) (v:((K i).dK C g).2.2=0):
  mB C (bD K i ((K i).dK C g).1) m (cJ 6 i ((K i).dK C g).2.1::N):=by
 unfold jL.dK at v ⊢
 by_cases D:0<=g/\g<C.aJ
 rotate_left
 .rw[bA1 D] at v;cases v
 rw[bA0 fun e=>e D] at v ⊢
 by_cases k:(jD (K i).bN g).isSome=true
 .grind
 rw[bA0 k] at v ⊢
 by_cases B:(K i).dP=true
 .grind
 rw[bA0 B] at v ⊢
 have B:(K i).dP=false:=by simpa using B
 have w:=h.cw i I
 rw[B] at w
 have y:∀x∈N,x.kind=6\/x.kind=12->x.core.toNat≠i:=fun x f k e=>by
  have R:=(h.nb x f FR).1;have:=Zj (i:=i) f FA k;grind
 have O:∀J z,nA N J z->nA (cJ 6 i (g/4)::N) J z:=fun i g Q=>N4 Q fun x f _=>ca _ f
 have t:bD K i ((K i).Bz g) i=(K i).Bz g:=dJ
 have u:∀{j:Nat},j≠i->bD K i ((K i).Bz g) j=K j:=fun e=>bO e
 have q:(cJ 6 (i:Int)<|g/4).core.toNat=i:=aM i
 constructor
 case cw=>
  intro j p
  rw[uQ]
  by_cases e:j=i
  .subst e;rw[t,w,bA1 ⟨rfl,.inl rfl⟩];rfl
  .rw[u e,bA0 fun G=>e FB];exact h.cw j p
 case no=>
  intro x f k
  rcases eD.1 f with rfl|f
  .rw[q,t];rfl
  .rw[u<|y x f k];exact h.no x f k
 case pl=>
  intro j p
  by_cases e:j=i
  .subst e;rw[t];exact fun _=> .inl rfl
  .rw[u e];exact h.pl j p
 case dF=>
  intro x f k
  rcases eD.1 f with rfl|f
  .exact absurd (show(6:Int)=12 from k) FC
  .rw[u<|y x f<|.inr k];have:=h.dF x f k;exact⟨this.1,fun a b c=>⟨(this.2 a b c).1,fun d=>O _ _<|(this.2 a b c).2 d⟩⟩
 case bN=>
  intro j p x f
  have f:x∈(K j).bN:=by
   by_cases e:j=i;subst e;rw[t] at f;exact f;grind
  have:=h.bN j p x f
  grind
 case nd=>
  intro j p
  by_cases e:j=i
  .subst e;rw[t];refine⟨(h.nd j p).1,fun _ P=>k ?_⟩;obtain⟨x,f,E⟩:=eV.1 P;unfold jD;rw[Option.isSome_map,List.find?_isSome];exact⟨x,f,cL E⟩
  .rw[u e];exact h.nd j p
 case gr=>
  intro j p
  by_cases e:j=i
  .subst e;rw[t];exact D
  .rw[u e];exact h.gr j p
 case vY=>exact h.vY
 case cd=>
  intro z j p
  rw[rP,bA0 fun G=>by rcases G.2.2 with H|H<;>exact absurd (show(6:Int)=_ from H) FC]
  exact h.cd z j p
 case nb=>
  intro x f k
  rcases eD.1 f with rfl|f
  .exact⟨⟨by show(0:Int)<=i;omega,I⟩,fun e=>by rcases e with e|e<;>exact absurd (show(6:Int)=_ from e) FC⟩
  .exact h.nb x f k
 case ph=>exact h.ph
theorem mB.Jq (h:mB C K m (n::N)) (k:(i:Int)<C.aB) (hc:n.core=(i:Int)) (d:n.kind=6\/n.kind=12):(K i).dP=true/\Mc.cw i N=0/\∀x∈N,x.kind=6\/x.kind=12->x.core.toNat≠i:=by
 have b:=h.cw i k;rw[uQ,bA1 ⟨hc,d⟩] at b;have f:(K i).dP=true:=FB
 rw[f] at b;have j:Mc.cw i N=0:=GH
 refine⟨f,j,fun x g d e=>?_⟩;have p:=(h.nb x (ca _ g) FR).1;have:=Zj (i:=i) g FA d;omega
theorem mB.dS (h:mB C K m (n::N)) (S:(m.eQ.length:Int)=C.aJ) (p:m.eQ.length<=16) (J:∀x∈m.eQ,0<=x.owner/\x.owner<=4) (v:(i:Int)<C.aB) (hc:n.core=(i:Int)) (f:n.kind=6):
  (kA m.eQ n.no).2=0/\mB C K m (nN n.core (kA m.eQ n.no).1 n.no::N):=by
 obtain⟨P,R,I⟩:=h.Jq v hc<|.inl f
 have O:=h.pl i v P
 have u:=h.gr i v
 have z:=h.no n c9<|.inl f
 rw[K9 hc] at z
 obtain⟨g,H⟩:=aL u.1
 have w:=Ya (es:=m.eQ) (g:=g) (a:=n.no) p J FA FB
 refine⟨w.1,?_⟩
 have y:(nN n.core (kA m.eQ n.no).1 n.no).core=n.core:=rfl
 have D:∀{B q:Nat},nA (n::N) B q->nA (nN n.core (kA m.eQ n.no).1 n.no::N) B q:=fun⟨x,t,E,G⟩=>by
  rcases eD.1 t with rfl|t;omega;exact⟨x,ca _ t,E,G⟩
 have T:(nN n.core (kA m.eQ n.no).1 n.no).kind=12:=rfl
 constructor
 case cw=>
  intro j k
  have:=h.cw j k
  rw[uQ] at this ⊢
  grind
 case no=>
  intro x b f
  rcases eD.1 b with rfl|b
  .rw[y,K9 hc];exact z
  .exact h.no x (ca _ b) f
 case pl=>exact h.pl
 case dF=>
  intro x b f
  rcases eD.1 b with rfl|b
  .rw[y,K9 hc];show z6 _ _ _ (kA m.eQ n.no).1/\((K i).kJ=false->(lT _ _ _ (kA m.eQ n.no).1).2.2.1=true->(lT _ _ _ (kA m.eQ n.no).1).2.1.kM=false->(lT _ _ _ (kA m.eQ n.no).1).2.1.owner=_/\_);have Q:m.eQ.getD g pU=m.jW (K i).aS:=by unfold Mon.jW;rw[H];rfl
   grind
  .have:=h.dF x (ca _ b) f;grind
 case bN=>exact fun j k x b=>⟨(h.bN j k x b).1,(h.bN j k x b).2.1,fun d=>D<|(h.bN j k x b).2.2 d⟩
 case nd=>exact h.nd
 case gr=>exact h.gr
 case vY=>exact h.vY
 case cd=>
  intro q j k
  have:=h.cd q j k
  rw[rP,aaa] at this
  rw[rP,aaa]
  exact this
 case nb=>
  intro x b f
  rcases eD.1 b with rfl|b
  .exact⟨FA,fun e=>FA⟩
  .exact h.nb x (ca _ b) f
 case ph=>exact h.ph
theorem mB.Ye {c:jL} (h:mB C K m (n::N)) (G:(i:Int)<C.aB) (hc:n.core=(i:Int)) (f:n.kind=12)
  (E:c.dP=true) (g:c.aS=(K i).aS) (v:c.bN=(K i).bN) (u:c.at'=a) (P:a=(K i).aS/4\/a=lK C.aJ (K i).aS):
  mB C (bD K i c) m (cJ 6 n.core a::N):=by
 obtain⟨H,O,w⟩:=h.Jq G hc<|.inr f
 have y:(cJ 6 n.core a).core=n.core:=rfl
 have I:(cJ 6 n.core a).kind=6:=rfl
 have J:∀{z p:Nat},nA (n::N) z p->nA (cJ 6 n.core a::N) z p:=fun⟨x,t,B,D⟩=>by
  rcases eD.1 t with rfl|t;omega;exact⟨x,ca _ t,B,D⟩
 have q:bD K i c i=c:=dJ
 have k:∀{j:Nat},j≠i->bD K i c j=K j:=fun e=>bO e
 constructor
 case cw=>
  intro j d
  rw[uQ,y,I]
  by_cases e:j=i
  .grind
  .have:=h.cw j d;rw[uQ,aaa] at this;grind
 case no=>
  intro x b f
  rcases eD.1 b with rfl|b
  .rw[y,K9 hc,q,u];rfl
  .rw[k<|w x b f];exact h.no x (ca _ b) f
 case pl=>
  intro j d
  by_cases e:j=i
  .grind
  .rw[k e];exact h.pl j d
 case dF=>
  intro x b f
  rcases eD.1 b with rfl|b
  .omega
  .have:=h.dF x (ca _ b) f;grind
 case bN=>
  intro j d x b
  have b:x∈(K j).bN:=by
   by_cases e:j=i;grind;grind
  have:=h.bN j d x b
  grind
 case nd=>
  intro j d
  by_cases e:j=i
  .subst e;rw[q,v,g];exact⟨(h.nd j d).1,fun _=>(h.nd j d).2 H⟩
  .rw[k e];exact h.nd j d
 case gr=>
  intro j d
  by_cases e:j=i
  .subst e;rw[q,g];exact h.gr j d
  .rw[k e];exact h.gr j d
 case vY=>exact h.vY
 case cd=>
  intro p j d
  have:=h.cd p j d
  rw[rP,aaa] at this
  rw[rP,aaa]
  exact this
 case nb=>
  intro x b f
  rcases eD.1 b with rfl|b
  .grind
  .exact h.nb x (ca _ b) f
 case ph=>exact h.ph
theorem mB.aJo {d:Nat} (h:mB C K m (n::N)) (E:(i:Int)<C.aB) (hc:n.core=(i:Int)) (k:n.kind=12) (D:1<=C.aJ)
  (v:o=(m.jW (K i).aS).owner/\((m.jW (K i).aS).kM=true->nA (n::N) i (K i).aS.toNat)):
  mB C (bD K i ⟨false,0,0,false,(K i).bN.drop d++[((K i).aS,o)]⟩) m N:=by
 obtain⟨H,G,t⟩:=h.Jq E hc<|.inr k
 have y:∀{w p:Nat},nA (n::N) w p->nA N w p:=fun⟨x,q,z,B⟩=>by
  rcases eD.1 q with rfl|q;omega;exact⟨x,q,z,B⟩
 have u:∀c:jL,bD K i c i=c:=fun _=>dJ
 have g:∀{j:Nat} {c:jL},j≠i->bD K i c j=K j:=fun e=>bO e
 have em:∀x,x∈N->x∈n::N:=fun x=>ca _
 constructor
 case cw=>
  intro j f
  by_cases e:j=i
  .grind
  .have:=h.cw j f;rw[uQ,aaa] at this;rw[g e];exact this
 case no=>exact fun x b k=>by rw[g<|t x b k];exact h.no x (em x b) k
 case pl=>
  intro j f
  by_cases e:j=i
  .grind
  .rw[g e];exact h.pl j f
 case dF=>
  intro x b k
  have:=h.dF x (em x b) k
  grind
 case bN=>
  intro j f x b
  by_cases e:j=i
  .subst e;rw[u] at b;rcases cj.1 b with b|b
   .have:=h.bN j f x<|DK b;grind
   .rw[aV.1 b];exact⟨h.gr j f,v.1,fun d=>y<|v.2 d⟩
  .rw[g e] at b;have:=h.bN j f x b;grind
 case nd=>
  intro j f
  by_cases e:j=i
  .subst e;rw[u];refine⟨?_,fun e=>by cases e⟩;have q:=h.nd j f;grind
  .rw[g e];exact h.nd j f
 case gr=>
  intro j f
  by_cases e:j=i
  .grind
  .rw[g e];exact h.gr j f
 case vY=>exact h.vY
 case cd=>
  intro p j f
  have:=h.cd p j f
  rw[rP,aaa] at this
  exact this
 case nb=>exact fun x b=>h.nb x<|em x b
 case ph=>exact h.ph
def mB.eU (h:mB C K m (n::N)) (j:(i:Int)<C.aB) (hc:n.core=(i:Int)) (d:n.kind=12) (k:1<=C.aJ):
  ((K i).eU C n.no n.d0).2.2.2=0/\mB C (bD K i ((K i).eU C n.no n.d0).1) m ((if((K i).eU C n.no n.d0).2.2.1 then [] else [cJ 6 n.core ((K i).eU C n.no n.d0).2.1])++N):=by
 obtain⟨p,x,w⟩:=h.Jq j hc<|.inr d
 have t:=h.no n c9<|.inr d
 have b:=h.dF n c9 d
 rw[K9 hc] at t b
 unfold jL.eU
 rw[bA0<|by rw[p];simp,bA0<|by rw[t];simp]
 cases hst:(K i).kJ with
 |true=>
  exact⟨rfl,h.Ye j hc d p rfl rfl rfl<|.inl rfl⟩
 |false=>
  rw[bA0 FF,t]
  rw[bA0<|by rw[b.1.1];simp]
  by_cases q:(lT C.aJ (K i).aS (K i).at' n.d0).2.2.1=true/\(lT C.aJ (K i).aS (K i).at' n.d0).2.1.kM=true
  .rw[bA1 q];exact⟨rfl,h.Ye (c:=(K i).goto<|(K i).aS/4) j hc d p rfl rfl rfl<|.inl rfl⟩
  .rw[bA0 q];split
   .rename_i g;exact⟨rfl,h.Ye (c:=(K i).goto _) j hc d p rfl rfl rfl<|.inr (b.1.2 g).1⟩
   .rename_i g;have g:(lT C.aJ (K i).aS (K i).at' n.d0).2.2.1=true:=HO
    refine⟨rfl,?_⟩
    have v:(lT C.aJ (K i).aS (K i).at' n.d0).2.1.kM=false:=by
     cases e:(lT C.aJ (K i).aS (K i).at' n.d0).2.1.kM with
     |true=>exact absurd ⟨g,e⟩ q
     |false=>rfl
    have u:=b.2 hst g v
    by_cases f:((K i).bN.length:Int)>=C.lH
    .have e:((K i).Bo C ((K i).aS,(lT C.aJ (K i).aS (K i).at' n.d0).2.1.owner)).done=⟨false,0,0,false,(K i).bN.drop 1++[((K i).aS,(lT C.aJ (K i).aS (K i).at' n.d0).2.1.owner)]⟩:=by
      unfold jL.Bo jL.done;rw[bA1 f]
     rw[e];exact h.aJo j hc d k u
    .have e:((K i).Bo C ((K i).aS,(lT C.aJ (K i).aS (K i).at' n.d0).2.1.owner)).done=⟨false,0,0,false,(K i).bN.drop 0++[((K i).aS,(lT C.aJ (K i).aS (K i).at' n.d0).2.1.owner)]⟩:=by
      unfold jL.Bo jL.done;rw[bA0 f];rfl
     rw[e];exact h.aJo j hc d k u
theorem H7 {x:mP} {k:Int} (d:0<=k) (b:g<m.eQ.length):(m.oO g x).jW k=if k=g then x else m.jW k:=by
 unfold Mon.jW Mon.oO;rw[aP,CF,aP];by_cases e:k=(g:Int);rw[aac,aac,bA1 e];rfl;rw[aaa,bA0 e]
theorem mB.eF (h:mB C K m (n::N)) (O:(i:Int)<C.aB) (hc:n.core=(i:Int)) (P:n.kind=13) (I:0<=n.no/\n.no<C.aJ):
  ((K i).drop C n.no).2=0/\mB C (bD K i ((K i).drop C n.no).1) m (cJ 7 n.core n.no::N):=by
 unfold jL.drop
 rw[aaa]
 refine⟨rfl,?_⟩
 dsimp only
 obtain⟨g,hg⟩:=aL I.1
 have Z:(cJ 7 n.core n.no).core=n.core:=rfl
 have eo:(cJ 7 n.core n.no).no=n.no:=rfl
 have kc:(cJ 7 n.core n.no).kind=7:=rfl
 generalize B:({(K i) with bN:=(K i).bN.filter fun x=> !decide (n.no= -1\/x.1=n.no),kJ:=(K i).kJ||((K i).dP&&decide (n.no= -1\/(K i).aS=n.no))}:jL)=c
 have t:c.dP=(K i).dP:=by rw[<-B]
 have E:c.aS=(K i).aS:=by rw[<-B]
 have D:c.at'=(K i).at':=by rw[<-B]
 have H:c.kJ=false->(K i).kJ=false/\((K i).dP=true->(K i).aS≠n.no):=by
  grind
 have G:∀x,x∈c.bN↔x∈(K i).bN/\x.1≠n.no:=by
  grind
 have q:(c.bN.map (·.1)).Sublist ((K i).bN.map (·.1)):=by
  rw[<-B];exact List.Sublist.map _ List.filter_sublist
 have Q:∀{J y:Nat},¬(J=i/\(y:Int)=n.no)->nA (n::N) J y->nA (cJ 7 n.core n.no::N) J y:=fun X ⟨x,z,R,S,T⟩=>by
  rcases eD.1 z with rfl|z;grind;exact⟨x,ca _ z,R,S,T⟩
 have u:bD K i c i=c:=dJ
 have v:∀{j:Nat},j≠i->bD K i c j=K j:=fun e=>bO e
 have em:∀x,x∈N->x∈n::N:=fun x=>ca _
 have U:=h.gr i O
 constructor
 case cw=>
  intro j k
  have:=h.cw j k
  rw[uQ,aaa] at this
  rw[uQ,aaa,this]
  grind
 case no=>
  intro x f P
  rcases eD.1 f with rfl|f
  .omega
  .have:=h.no x (em x f) P;by_cases e:x.core.toNat=i
   .rw[e] at this ⊢;rw[u,D];exact this
   .rw[v e];exact this
 case pl=>
  intro j k
  by_cases e:j=i
  .subst e;rw[u,t,D,E];exact h.pl j k
  .rw[v e];exact h.pl j k
 case dF=>
  intro x f p
  rcases eD.1 f with rfl|f
  .omega
  .have:=h.dF x (em x f) p;by_cases e:x.core.toNat=i
   .rw[e] at this ⊢;rw[u,D,E];refine⟨this.1,fun a b c=>?_⟩;have Y:(K i).dP=true:=by
     have hb:=(h.nb x (em x f) FR).1;have z:=h.cw i O;have:=Zj (i:=i) (em x f) FA<|.inr p;grind
    exact⟨(this.2 (H a).1 b c).1,fun d=>Q (fun e2=>(H a).2 Y FA)<|(this.2 (H a).1 b c).2 d⟩
   grind
 case bN=>
  intro j k x f
  by_cases e:j=i
  .subst e;rw[u] at f;have:=h.bN j k x ((G x).1 f).1;grind
  .rw[v e] at f;have:=h.bN j k x f;grind
 case nd=>
  intro j k
  by_cases e:j=i
  .subst e;rw[u,t,E];exact⟨(h.nd j k).1.sublist q,fun w W=>(h.nd j k).2 w<|q.mem W⟩
  .rw[v e];exact h.nd j k
 case gr=>
  intro j k
  by_cases e:j=i
  .grind
  .rw[v e];exact h.gr j k
 case vY=>exact h.vY
 case cd=>
  intro y j k
  have:=h.cd y j k
  rw[rP] at this ⊢
  grind
 case nb=>
  intro x f p
  rcases eD.1 f with rfl|f
  .grind
  .exact h.nb x (em x f) p
 case ph=>exact h.ph
theorem Kb {b:Nat}:Fa (m.dO g x) b i=if b=g then(match x with|some r=>(r.aH i).toNat|none=>0) else Fa m b i:=by
 unfold Fa Mon.dO bD;grind
theorem mB.dE (hC:C.Ok) (h:mB C K m (n::N)) (H:iY C m) (S:(i:Int)<C.aB) (hc:n.core=(i:Int)) (U:n.kind=7) (u:n.no=(g:Int)):
  ∃r,m.eI g=some r/\r.phase=1/\r.aH i=true/\m.eF C.aB n.no n.core=(m.dO g<|some (r.dE i).gX,(r.dE i).none,0)/\mB C K (m.dO g<|some (r.dE i).gX) N:=by
 have b:=h.cd g i S
 rw[rP,bA1 ⟨hc,u,.inr U⟩] at b
 unfold Fa at b
 have T:i<4:=FI
 cases hr:m.eI g with
 |none=>rw[hr] at b;simp at b
 |some r=>
  rw[hr] at b
  dsimp only at b
  have E:r.aH i=true:=by
   cases e:r.aH i with
   |true=>rfl
   |false=>rw[e] at b;simp at b
  rw[E] at b
  have P:Mc.cd i g N=0:=GH
  have D:=h.ph g r hr
  have z:=H.run g r hr
  have p:r.none=false:=by
   have:i=0\/i=1\/i=2\/i=3:=FA
   unfold mS.none;rcases this with rfl|rfl|rfl|rfl<;>rw[E]<;>simp
  have B:r.phase=1:=by
   rcases z.2.2.1 with e|e;exact e;have:=D.1.1 e;rw[p] at this;cases this
  have G:m.kG n.no:=by
   unfold Mon.kG;have:=H.len;omega
  have I:m.run n.no=some r:=by unfold Mon.run;rw[aac,u,aM,hr]
  have v:(r.dE i).gX.aH=mD r.aH i false:=rfl
  have W:(r.dE i).gX.none=(r.dE i).none:=rfl
  refine⟨r,rfl,B,E,?_,?_⟩
  .unfold Mon.eF;grind
  have Y:∀{J f:Nat},nA (n::N) J f->nA N J f:=fun⟨x,b,Q,R⟩=>by
   rcases eD.1 b with rfl|b;omega;exact⟨x,b,Q,R⟩
  have em:∀x,x∈N->x∈n::N:=fun x=>ca _
  have O:∀k,(m.dO g<|some (r.dE i).gX).jW k=m.jW k:=fun _=>rfl
  constructor
  case cw=>
   intro j t
   have:=h.cw j t
   rw[uQ,aaa] at this
   exact this
  case no=>exact fun x q=>h.no x<|em x q
  case pl=>exact h.pl
  case dF=>
   intro x q y
   have:=h.dF x (em x q) y
   grind
  case bN=>
   intro j t x q
   have:=h.bN j t x q
   grind
  case nd=>exact h.nd
  case gr=>exact h.gr
  case vY=>
   intro f w
   rw[O,h.vY f w]
   unfold Mon.dO bD
   grind
  case cd=>
   intro f j t
   have:=h.cd f j t
   rw[rP] at this
   rw[Kb]
   by_cases e:f=g
   .subst e;rw[bA1 rfl];dsimp only;rw[v];by_cases e2:j=i
    .subst e2;rw[P];unfold mD;rw[bA1 rfl];rfl
    .unfold mD;unfold Fa at this;grind
   grind
  case nb=>exact fun x q=>h.nb x<|em x q
  case ph=>
   intro f X d
   unfold Mon.dO bD at d
   dsimp only at d
   split at d
   .cases d;refine⟨?_,fun j t=>?_⟩
    .show(if(r.dE i).none=true then(2:Int) else r.phase)=2↔_;grind
    .rw[v];unfold mD;grind
   .exact h.ph f X d
theorem C7 {g:Int} {x:aG} (h:x∈sC aB g):x.kind=13/\x.no=g/\∃j:Nat,(j:Int)<aB/\x=cJ 13 j g:=by
 obtain⟨j,b,rfl⟩:=eV.1 h;have:=z2.1 b;exact⟨rfl,rfl,j,FA,rfl⟩
theorem aKr {b:Nat} (f:(i:Int)<aB):cd i b (sC aB g)=if b=g then 1 else 0:=by
 unfold sC;obtain⟨n,h⟩:∃n:Nat,aB.toNat=n/\i<n:=⟨aB.toNat,rfl,FA⟩;have e:∀n:Nat,cd i b ((List.range n).map fun j:Nat=>cJ 13 j g)=if i<n/\b=g then 1 else 0:=by
  intro n;induction n with
  |zero=>rfl
  |succ n d=>
   rw[dx,kt,aJs,d];show _+cd i b (cJ 13 n g::[])=_;rw[rP];show _+(0+if(n:Int)=(i:Int)/\(g:Int)=(b:Int)/\((13:Int)=13\/(13:Int)=7) then 1 else 0)=_;grind
 grind
theorem mB.iC {a:Mc.Nk} {j:Int×Bool×Int} (hC:C.Ok) (h:mB C K m N) (Q:(m.eQ.length:Int)=C.aJ) (P:(g:Int)<C.aJ) (G:m.eI g=none):
  mB C K ((m.oO g ⟨(m.jW g).owner,true⟩).dO g<|some<|a.run C.aB j) (sC C.aB g++N):=by
 have H:∀{q d:Nat},nA N q d->nA (sC C.aB g++N) q d:=fun E=>N4 E fun x b _=>cj.2<|.inr b
 have I:∀q:Nat,(q:Int)<C.aB->nA (sC C.aB g++N) q g:=fun q D=>⟨cJ 13 q g,cj.2<|.inl<|eV.2 ⟨q,z2.2 FA,rfl⟩,rfl,rfl,rfl⟩
 have em:∀x,x∈sC C.aB g++N->x.kind≠13->x∈N:=fun x b p=>by
  rcases cj.1 b with b|b;exact absurd (C7 b).1 p;exact b
 have w:∀k:Int,0<=k->((m.oO g ⟨(m.jW g).owner,true⟩).dO g<|some<|a.run C.aB j).jW k=if k=g then⟨(m.jW g).owner,true⟩ else m.jW k:=fun k p=>H7 p FA
 have z:∀x∈N,x.kind=6\/x.kind=12->(x.core.toNat:Int)<C.aB:=fun x b p=>by have:=(h.nb x b FR).1;omega
 constructor
 case cw=>
  intro i t
  rw[aRd]
  have:Mc.cw i (sC C.aB g)=0:=by
   refine AI.2 fun x b=>?_;have:=(C7 b).1;grind
  rw[this,AB];exact h.cw i t
 case no=>exact fun x b p=>h.no x (em x b FA) p
 case pl=>exact h.pl
 case dF=>
  intro x b p
  have b:=em x b FA
  have:=h.dF x b p
  have B:=h.gr _<|z x b<|.inr p
  grind
 case bN=>
  intro i t x b
  have:=h.bN i t x b
  grind
 case nd=>exact h.nd
 case gr=>exact h.gr
 case vY=>
  intro d u
  rw[w _ FA]
  show _↔(bD m.eI g _ d).isSome=true
  unfold bD
  by_cases e:d=g
  .subst e;simp
  .rw[aaa,bA0 e];exact h.vY d u
 case cd=>
  intro d i t
  rw[aJs,Kb,aKr t,h.cd d i t]
  by_cases e:d=g
  .subst e;rw[bA1 rfl,bA1 rfl];have:Fa m d i=0:=by unfold Fa;rw[G]
   rw[this]
   show 1+0=(decide<|(i:Int)<C.aB).toNat
   grind
  .rw[bA0 e,bA0 e,AB];rfl
 case nb=>
  intro x b p
  rcases cj.1 b with b|b
  .obtain⟨J,O,k,y,rfl⟩:=C7 b;exact⟨⟨by show(0:Int)<=k;omega,y⟩,fun _=>FA⟩
  .exact h.nb x b p
 case ph=>
  intro d v f
  have f:bD m.eI g (some<|a.run C.aB j) d=some v:=f
  unfold bD at f
  split at f
  .cases f;refine⟨?_,fun i t=>cM FA⟩;show(1:Int)=2↔(!(decide (((0:Nat):Int)<C.aB)||_||_||_))=true;have:=hC.1.1;grind
  .exact h.ph d v f
theorem mB.over {r:Mc.mS} (hC:C.Ok) (h:mB C K m N) (P:(m.eQ.length:Int)=C.aJ) (G:(g:Int)<C.aJ) (y:m.eI g=some r) (w:r.phase=2):
  mB C K ((m.oO g ⟨o,false⟩).dO g none) N/\(∀i:Nat,(i:Int)<C.aB->∀x∈(K i).bN,x.1≠g):=by
 have B:∀k:Int,0<=k->((m.oO g ⟨o,false⟩).dO g none).jW k=if k=g then⟨o,false⟩ else m.jW k:=fun k q=>H7 q FA
 have v:(m.jW g).kM=true:=(h.vY g G).2 (by rw[y];rfl)
 have p:=(h.ph g r y).1.1 w
 have J:∀i:Nat,(i:Int)<C.aB->r.aH i=false:=fun i f=>by
  have:i=0\/i=1\/i=2\/i=3:=FI
  unfold mS.none at p;grind
 have I:∀i:Nat,(i:Int)<C.aB->¬nA N i g:=fun i f w=>by
  have O:=aN9 w;have D:=h.cd g i f;unfold Fa at D;grind
 have E:∀x∈N,x.kind=6\/x.kind=12->(x.core.toNat:Int)<C.aB:=fun x j q=>by have:=(h.nb x j FR).1;omega
 have u:∀i:Nat,(i:Int)<C.aB->∀x∈(K i).bN,x.1≠g:=fun i f x j e=>by
  have:=(h.bN i f x j).2.2 (by rw[e];exact v);grind
 refine⟨?_,u⟩
 constructor
 case cw=>exact h.cw
 case no=>exact h.no
 case pl=>exact h.pl
 case dF=>
  intro x j q
  have:=h.dF x j q
  have H:=h.gr _<|E x j<|.inr q
  grind
 case bN=>
  intro i f x j
  have:=h.bN i f x j
  grind
 case nd=>exact h.nd
 case gr=>exact h.gr
 case vY=>
  intro d t
  rw[B _ FA]
  show _↔(bD m.eI g none d).isSome=true
  unfold bD
  by_cases e:d=g
  .subst e;simp
  .rw[aaa,bA0 e];exact h.vY d t
 case cd=>
  intro d i f
  rw[Kb,h.cd d i f]
  by_cases e:d=g
  .subst e;unfold Fa;grind
  .rw[bA0 e];rfl
 case nb=>exact h.nb
 case ph=>
  intro d z b
  have b:bD m.eI g none d=some z:=b
  unfold bD at b
  by_cases e:d=g
  .grind
  .rw[bA0 e] at b;exact h.ph d z b
end
variable {A:AM}
variable {B:AM} {s:aT}
def D4 (b:B.aD=bD A.aD i s) (hc:B.fG=A.fG):B.jB i a={B with aD:=bD A.aD i (s.jB a)}:=by
 unfold AM.jB AM.pC;rw[b,dJ,Ag]
theorem Q4 {x:iD} (h:aT.kQ s=some x):s.over=false/\x=mX s.prog s.at':=by
 unfold aT.kQ at h;grind
theorem Qz (d:(i:Int)<A.fG.aB) (e:(A.aD i).over=false):
  A.step i b=((A.jY i (mX (A.aD i).prog (A.aD i).at') b).1.jB i (A.jY i (mX (A.aD i).prog (A.aD i).at') b).2.2.2.2,
      ⟨i,(A.aD i).at',(mX (A.aD i).prog (A.aD i).at').op,(A.aD i).bA,(A.jY i (mX (A.aD i).prog (A.aD i).at') b).2.1,(A.jY i (mX (A.aD i).prog (A.aD i).at') b).2.2.1,(A.jY i (mX (A.aD i).prog (A.aD i).at') b).2.2.2.1⟩,0):=by
 unfold AM.step
 grind
def aC6 (h:A.aD i=s):A.aD=bD A.aD i s:=by subst h;exact zM.symm
def aGf {r:aT×Ev} (j:(i:Int)<A.fG.aB) (h:aT.mM (A.aD i) i=some r):A.step i b=({A with aD:=bD A.aD i r.1},r.2,0)/\xX r.2=false:=by
 unfold aT.mM at h;cases hn:aT.kQ (A.aD i) with
 |none=>rw[hn] at h;cases h
 |some x=>
  rw[hn] at h;dsimp only at h;obtain⟨k,p⟩:=Q4 hn;rw[Qz j k,<-p];unfold AM.jY;split at h;rename_i e;cases h;rw[bA1 e];exact⟨by rw[D4 (A:=A) (B:=A.pC i _) (s:=(A.aD i).dO x.a x.b) rfl rfl];rfl,rfl⟩;rename_i f;rw[bA0 f];split at h;rename_i e;cases h;rw[bA1 e];exact⟨by rw[D4 (A:=A) (B:=A.pC i _) (s:=(A.aD i).dO x.a _) rfl rfl];rfl,rfl⟩;rename_i e2;rw[bA0 e2];split at h;cases h;rw[aaa,aaa,aaa,aaa,aaa];exact⟨HN,rfl⟩;split at h;rename_i e;rw[aaa,bA1 e];split at h;rename_i d;cases h;rw[bA1 d];exact⟨by rw[D4 (A:=A) (B:=A.pC i _) (s:=(A.aD i).Yo x.a) rfl rfl];rfl,rfl⟩;rename_i d;cases h;rw[bA0 d];exact⟨HN,rfl⟩;rename_i d;split at h;rename_i e;cases h;rw[aaa,bA0 d,aaa,bA1 e];exact⟨HN,rfl⟩;rename_i g;split at h;rename_i e;cases h;rw[aaa,bA0 d,aaa,bA0 g,bA1 e];exact⟨HN,rfl⟩;cases h
def aF1 {a:vR} (h:aT.iI s=some a):∃x,aT.kQ s=some x/\(x.op=3\/x.op=4\/x.op=5)/\a=⟨s.dI x.b.toNat,decide<|x.op≠3,decide<|x.op≠4,if x.op=3 then 0 else s.dI x.a.toNat⟩:=by
 unfold aT.iI at h;cases hn:aT.kQ s with
 |none=>rw[hn] at h;cases h
 |some x=>
  rw[hn] at h;dsimp only at h;split at h;rename_i e;cases h;exact⟨x,rfl,cP e,rfl⟩;cases h
theorem ky {a:vR} (j:(i:Int)<A.fG.aB) (h:aT.iI (A.aD i)=some a) (k:A.Ql (A.aD i).bA a.dF=false):
  A.step i b=({A with aD:=bD A.aD i (aT.bL (A.aD i) i 0 19).1},(aT.bL (A.aD i) i 0 19).2.1,0)/\(aT.bL (A.aD i) i 0 19).2.2=0/\xX (aT.bL (A.aD i) i 0 19).2.1=false:=by
 obtain⟨x,f,e,rfl⟩:=aF1 h
 obtain⟨p,q⟩:=Q4 f
 have g:aT.bL (A.aD i) i 0 19=((A.aD i).jB<|(A.aD i).at'+1,aT.ev (A.aD i) i x ((A.aD i).dI x.b.toNat) 0 19,0):=by
  unfold aT.bL;rw[f];dsimp only;rw[aaa,bA1<|by unfold Jb;grind,aaa,bA1 rfl]
 rw[g,Qz j p,<-q]
 unfold AM.jY
 have d:A.fF i x=(A,0,19):=by unfold AM.fF;rw[bA0<|by rw[k];simp]
 rw[aaa,aaa,bA1 e,d]
 exact⟨HN,rfl,rfl⟩
theorem aBs {a:vR} (t:(i:Int)<A.fG.aB) (q:aT.iI (A.aD i)=some a) (u:A.Ql (A.aD i).bA a.dF=true) (d:v=if a.Fz then Cw A.mem a.dF.toNat else 0):
  A.step i b=({A with aD:=bD A.aD i (aT.bL (A.aD i) i v 0).1,mem:=if a.iS then Fb A.mem a.dF.toNat a.value else A.mem},(aT.bL (A.aD i) i v 0).2.1,0)/\(aT.bL (A.aD i) i v 0).2.2=0/\xX (aT.bL (A.aD i) i v 0).2.1=false:=by
 obtain⟨x,k,g,rfl⟩:=aF1 q
 obtain⟨w,y⟩:=Q4 k
 have p:aT.bL (A.aD i) i v 0=if x.op=4 then((A.aD i).jB<|(A.aD i).at'+1,aT.ev (A.aD i) i x ((A.aD i).dI x.b.toNat) ((A.aD i).dI x.a.toNat) 0,0) else(((A.aD i).dO x.a v).jB<|(A.aD i).at'+1,aT.ev (A.aD i) i x ((A.aD i).dI x.b.toNat) v 0,0):=by
  unfold aT.bL;rw[k];dsimp only;rw[aaa,bA1<|by unfold Jb;grind,aaa,aaa]
 rw[p,Qz t w,<-y]
 unfold AM.jY
 rw[aaa,aaa,bA1 g]
 unfold AM.fF
 rw[bA1 u]
 rcases g with e|e|e
 .rw[bA1 e,aaa];have d:v=Cw A.mem ((A.aD i).dI x.b.toNat).toNat:=by rw[d,bA1 GF]
  have h:decide (x.op≠3)=false:=GF
  subst d
  refine⟨?_,rfl,rfl⟩
  rw[h]
  rw[D4 (A:=A) (B:=A.pC i _) (s:=(A.aD i).dO x.a _) rfl rfl];rfl
 .have h:decide (x.op≠3)=true:=GF
  have f:¬x.op=3:=FA
  refine⟨?_,by rw[bA1 e],by rw[bA1 e];rfl⟩
  rw[bA0 f,bA1 e,bA1 e,h]
  rw[D4 (A:=A) (B:=A.jH<|Fb A.mem ((A.aD i).dI x.b.toNat).toNat<|(A.aD i).dI x.a.toNat) (aC6 rfl) rfl,bA0 f];rfl
 .have h:decide (x.op≠3)=true:=GF
  have f:¬x.op=3:=FA
  have j:¬x.op=4:=FA
  have d:v=Cw A.mem ((A.aD i).dI x.b.toNat).toNat:=by rw[d,bA1 GF]
  subst d
  refine⟨?_,by rw[bA0 j],by rw[bA0 j];rfl⟩
  rw[bA0 f,bA0 j,bA0 j,h]
  rw[D4 (A:=A) (B:=(A.jH<|Fb A.mem ((A.aD i).dI x.b.toNat).toNat<|(A.aD i).dI x.a.toNat).pC i _) (s:=(A.aD i).dO x.a _) rfl rfl,bA0 f];rfl
theorem Zo {a:Mc.Nk} (h:aT.xR s i=some a):∃x,aT.kQ s=some x/\x.op=8/\a=⟨i,s.bA,x.a,s.dI x.b.toNat,s.dI x.c.toNat⟩:=by
 unfold aT.xR at h;grind
theorem xp {a:Mc.Nk} {e:Int} (k:(i:Int)<A.fG.aB) (j:aT.xR (A.aD i) i=some a) (hc:A.call a.call a.bA a.aS a.to (decide<|e=17)=(B,e)):
  A.step i (decide<|e=17)=({B with aD:=bD A.aD i (aT.bL (A.aD i) i 0 e).1},(aT.bL (A.aD i) i 0 e).2.1,0)/\(aT.bL (A.aD i) i 0 e).2.2=0/\xX (aT.bL (A.aD i) i 0 e).2.1=decide (e=17):=by
 obtain⟨x,p,f,rfl⟩:=Zo j
 obtain⟨q,u⟩:=Q4 p
 have h:aT.bL (A.aD i) i 0 e=(((A.aD i).dO x.b e).jB<|(A.aD i).at'+1,aT.ev (A.aD i) i x ((A.aD i).dI x.b.toNat) ((A.aD i).dI x.c.toNat) e,0):=by
  unfold aT.bL;grind
 rw[h,Qz k q,<-u]
 have d:=J6 (m:=A) (c:=x.a) (w:=(A.aD i).bA) (g:=(A.aD i).dI x.b.toNat) (t:=(A.aD i).dI x.c.toNat) (b:=decide<|e=17)
 rw[hc] at d
 unfold AM.jY
 rw[aaa,aaa,aaa,aaa,bA1 f,hc]
 refine⟨?_,rfl,rfl⟩
 rw[D4 (A:=A) (B:=B.pC i _) (s:=(A.aD i).dO x.b e) (by show bD B.aD i _=_;rw[d.2.2]) d.1]
 rfl
theorem Xa:∀{l:IM} {A B:AM} {x:Ev} {k:Nat},jI A l k=(B,k+l.length,0)->Ny B x=0->jI A (l++[x]) k=((B.step x.core<|xX x).1,k+l.length+1,0)
 |[],A,B,x,k,h,b=>by
  have:A=B:=by cases h;rfl
  subst this;show jI A [x] k=_;unfold jI;rw[bA0<|by rw[b];simp];rfl
 |y::l,A,B,x,k,h,b=>by
  rw[e7];unfold jI at h ⊢;split at h;grind;rename_i d;rw[bA0 d];rw[hK] at h ⊢;rw[show k+(l.length+1)=k+1+l.length by omega] at h ⊢;exact Xa h b
def aS5 {x:Ev} (h:A.step x.core (xX x)=(B,x,0)):Ny A x=0:=by
 unfold Ny;rw[h];simp
end Go.Mc
variable {j:Int->Int×Bool}
namespace Go.Pc
open Go.Hm Go.Ct
variable {l:Nat} {r:bP} {m V:Ln} {c:CLs} {N:IA} {n:aG}
structure vN (r:bP):Prop where
 busy:r.busy=false
 owner:r.owner= -1
 sh:∀i,i<4->r.sh i=false
def Lr (r:bP):Prop:=(r.busy=true/\r.aX.kind=0)\/∃x∈r.aH,x.kind=0
def R4 (r:bP):Prop:=Lr r\/vN r
def R4.lF (h:R4 r):R4 (r.lF n):=by
 rcases h with(h|⟨x,b,k⟩)|h;exact .inl<|.inl h;exact .inl<|.inr ⟨x,cj.2<|.inl b,k⟩;exact .inr ⟨h.busy,h.owner,h.sh⟩
theorem Mp:Lr (r.lF<|nU l):= .inr ⟨nU l,cj.2 FB,rfl⟩
theorem mE:(r.dE n).aH=r.aH:=by
 unfold bP.dE;split;rfl;split<;>split<;>rfl
theorem kB {aI:Int} {d:Ln}:(r.dZ aI d).1.aH=r.aH:=by
 grind[bP.dZ]
theorem R4.take (h:R4 r) (d:gB l r m V c (n::N)) (T:1<=n.kind/\n.kind<=5):R4 (iN.take (r,m) l n).1.1:=by
 unfold iN.take;by_cases u:n.kind=4;rw[bA1 u];obtain⟨w,Q,R⟩:=d.aFv u;rw[bA0 FB];rcases h with(h|⟨x,B,k⟩)|h;exact absurd h.2<|d.kg w;exact .inl<|.inr ⟨x,B,k⟩;have:=d.jA.gb w;rw[h.busy] at this;cases this;rw[bA0 u];by_cases v:n.kind=5;rw[bA1 v];have y:=d.nc n FF;obtain⟨i,t,q,G⟩:=jT y.2;obtain⟨S,H,p,_,_⟩:=d.xq v t q;rw[bA0 FB];have W:(iN.nI (r,m) l n).1.1.aH=r.aH:=by
  unfold iN.nI bP.rest;dsimp only;split;split;exact mE;grind[kB,mE];exact mE
 rcases h with(h|⟨x,B,k⟩)|h;have e:=J7 d.jA y.2 FB;have g:r.dE n=(r.iG n).iB n.core:=by unfold bP.dE;rw[aac]
 unfold iN.nI bP.rest;dsimp only;split;rename_i J;rw[bA1<|by grind[Es]];right;have b:∀j:Nat,j<4->(r.dE n).sh j=false/\(r.dE n).owner≠(j:Int):=fun j z=>by
  have I:=d.k2 p H FA j z FA;have O:=hM J z;have f:(r.dE n).dS j=mD r.dS n.core false j:=by rw[g];rfl
  have E:(r.dE n).sh j=mD r.sh n.core false j:=by rw[g];rfl
  have D:(r.dE n).owner=if r.owner=n.core then -1 else r.owner:=by rw[g];rfl
  grind[mD]
 refine⟨rfl,?_,fun i t=>(b i t).1⟩;show(r.dE n).owner= -1;have U:=e.owner;have P:=b (r.dE n).owner.toNat;omega;left;left;exact⟨e.busy,by grind[Es]⟩;exact .inl<|.inr ⟨x,FB,k⟩;rw[h.busy] at p;cases p;rw[bA0 v];exact h.lF
theorem R4.eX {w:IA} (h:R4 r) (hb:r.busy=false) (y:r.aH=n::w) (p:gB l r m V c N) (B:∀x,(j x).2=false):R4 (bP.eX (r.next w) l m n j).1.1:=by
 have d:n.kind≠0->R4 (r.next w):=fun E=>by
  rcases h with(h|⟨x,e,k⟩)|h;grind;rw[y] at e;rcases eD.1 e with rfl|e;grind;exact .inl<|.inr ⟨x,e,k⟩;exact .inr ⟨h.busy,h.owner,h.sh⟩
 unfold bP.eX;by_cases q:n.kind=3;rw[bA1 q];rcases d FA with(h|⟨x,e,k⟩)|h;exact .inl<|.inl h;exact .inl<|.inr ⟨x,e,k⟩;refine .inr ⟨h.busy,?_,fun i u=>?_⟩;show(if(r.next w).owner=n.core then(-1:Int) else(r.next w).owner)= -1;split;rfl;exact h.owner;show mD _ n.core false i=false;unfold mD;split;rfl;exact h.sh i u;rw[bA0 q];by_cases g:n.kind=1\/n.kind=2;grind;rw[bA0 g];have v:=p.jA.aH n FB;split;rename_i t;have f:=Ii.1 t;have D:=p.jA.owner;right;refine⟨hb,?_,FB⟩;show r.owner= -1;have z:r.owner.toNat<4->((r.owner.toNat:Nat):Int)≠ -1->((r.owner.toNat:Nat):Int)≠r.owner:=fun a b=>(f r.owner.toNat a b).2;omega;exact .inl<|.inl ⟨rfl,by show n.kind=0;omega⟩
theorem gB.aKz (h:gB l r m V c N) (hc:vN r):(∀i,i<4->HH l r c N i=0)/\∀x∈N,x.kind≠8/\x.kind≠5/\x.kind≠11:=by
 obtain⟨u,y,_⟩:=h.Qk hc.busy;have p:∀x∈N,x.kind≠8/\x.kind≠5/\x.kind≠11:=fun x q=>by
  obtain⟨j,t,g,_⟩:=jT (h.nc x q).2;have f:=h.yJ u q;exact⟨fun k=>h.no8 t (by grind[Ce]) q k g,f.1,f.2⟩
 refine⟨fun i d=>?_,p⟩;have b:=h.c1 i d (by have:=h.t3 i d;grind[hM]) (by have:=h.t4 i d;grind[Ce]);have v:0<=HH l r c N i:=by have:=h.A7 i d;unfold HH F5;grind
 have f:HH l r c N i≠1:=fun e=>by have:=b.1.1 e;rw[hc.sh i d] at this;cases this
 have w:¬2<=HH l r c N i:=fun e=>by have:=b.2.1 e;rw[hc.owner] at this;omega
 omega
end Go.Pc
variable {l:Int} {N n:Nat}
namespace Go.Mc
open Go.Hm Go.At Go.Is Go.Ct Go.Nt Go.Pc
variable {C:bQ} {M M' M1:bR} {V V':Nat->Ln} {A0:AM} {r:Mc.mS} {s:aT} {es:IP} {X:Nat->jR} {S:Nat->IC}
abbrev Au (C:bQ) (M:bR) (V:Nat->Ln):AM:=⟨C,M.aD,M.bH.eQ.map mP.owner,V⟩
structure RX (C:bQ) (A0:AM) (M:bR) (V:Nat->Ln):Prop where
 rX:sV C M.aK M.bT V (dL C M.cB)
 gE:mB C M.aU M.bH (dL C M.cB)
 U4:∀g r,M.bH.eI g=some r->r.phase=2->R4 (M.aK<|g*2).1/\R4 (M.aK<|g*2+1).1
 uB:∀g r,M.bH.eI g=some r->aT.xR (M.aD r.core.toNat) r.core.toNat=some ⟨r.core,r.bA,r.call,g,r.to⟩/\jP r.call r.bA (M.bH.jW g).owner r.to=(r.kC,r.oG,0)
 eY:jI A0 M.eY 0=(Au C M V,M.eY.length,0)
theorem nh {x:Ev} {B:AM} (h:jI A0 M.eY 0=(Au C M V,M.eY.length,0)) (b:(Au C M V).step x.core (xX x)=(B,x,0)):jI A0 (M.eY++[x]) 0=(B,(M.eY++[x]).length,0):=by
 have:=Xa (k:=0) (l:=M.eY) (x:=x) (by rw[AB];exact h)<|aS5 b;grind
theorem aD2 (hC:C.Ok) (b:dD C N M) (h:M.bH.iC i=false) (d:M.bH.eI g=some r):r.core.toNat≠i:=fun e=>by
 have f:=(b.bH.run g r d).2.2.2.1;have:M.bH.iC i=true:=(wX hC b.bH).2 ⟨g,by unfold rc;grind⟩;grind
theorem RX.aQh (hC:C.Ok) (q:dD C N M) (h:RX C A0 M V) {v:Ev} (u:M.bH.iC i=false)
  (k:M1.aD=bD M.aD i s) (e2:M1.eY=M.eY++[v]) (b:M1.bH=M.bH) (d:M1.aK=M.aK) (p:M1.aU=M.aU) (e:M1.cB=M.cB)
  (hc:sV C M.aK M1.bT V' (dL C M.cB)) (t:v.core=i) (j:(Au C M V).step i (xX v)=({Au C M V with aD:=bD M.aD i s,mem:=V'},v,0)):RX C A0 M1 V':=by
 constructor
 case rX=>rw[d,e];exact hc
 case gE=>rw[b,p,e];exact h.gE
 case U4=>rw[b,d];exact h.U4
 case uB=>
  rw[b,k]
  intro g r f
  unfold bD
  rw[bA0<|aD2 hC q u f]
  exact h.uB g r f
 case eY=>
  rw[<-t] at j
  have:=nh h.eY j
  grind
theorem RX.Q1 (hC:C.Ok) (q:dD C N M) (h:RX C A0 M V) {code:Int} (u:M.bH.iC i=false)
  (f:M1.aD=M.aD) (e2:M1.eY=M.eY) (g:M1.bH=M.bH) (j:M1.aK=M.aK) (k:M1.aU=M.aU) (p:M1.cB=M.cB) (hc:sV C M.aK M1.bT V' (dL C M.cB))
  (d:(Au C M V).step i b=({Au C M V with aD:=bD M.aD i (aT.bL (M.aD i) i v code).1,mem:=V'},(aT.bL (M.aD i) i v code).2.1,0)/\(aT.bL (M.aD i) i v code).2.2=0/\xX (aT.bL (M.aD i) i v code).2.1=b):RX C A0 (M1.bL i v code).1 V':=by
 obtain⟨d,e,t⟩:=d
 unfold bR.bL
 rw[f,bA0<|by rw[e];simp]
 exact h.aQh (s:=(aT.bL (M.aD i) i v code).1) (v:=(aT.bL (M.aD i) i v code).2.1) hC q u FB FB g j k p hc (Bs e) (by rw[t];exact d)
theorem Gi {l:List (Int×Int)} {g:Int} (h:jD l g=some o):(g,o)∈l:=by
 unfold jD at h;cases hf:l.find? (fun x=>decide<|x.1=g) with
 |none=>rw[hf] at h;cases h
 |some x=>
  grind
theorem Ud (b:g<es.length):(es.map mP.owner).getD g 0=(es.getD g pU).owner:=by
 grind
theorem RX.aY9 (h:RX C A0 M V) {out:IA} (e:(dL C M1.cB).Perm (out++dL C M.cB)) (k:∀x∈out,¬KK x.kind)
  (f:M1.aD=M.aD) (e2:M1.eY=M.eY) (b:M1.bH=M.bH) (d:M1.aK=M.aK) (g:M1.aU=M.aU) (j:M1.bT=X) (hc:sV C M.aK X V (out++dL C M.cB)):RX C A0 M1 V:=by
 constructor
 case rX=>rw[d,j];exact hc.cH e.symm
 case gE=>rw[b,g];exact(h.gE.O5 k).cH e.symm
 case U4=>rw[b,d];exact h.U4
 case uB=>rw[b,f];exact h.uB
 case eY=>rw[e2,h.eY];grind
def aRy (e:dD C N M) (h:RX C A0 M V) (f:(i:Int)<C.aB) {w:Int} (j:0<=w/\w<C.aF*2) (k:C.aF=(C.aJ*2).toNat) (g:jD (M.aU i).bN (w/2/2)=some o) {bA:Int}:
  (Au C M V).Ql bA w=yL bA o:=by
 unfold AM.Ql
 rw[bA1 j]
 have b:=e.bH.len
 have d:o=(M.bH.jW<|w/2/2).owner:=(h.gE.bN i f _<|Gi g).2.1
 rw[Ud FA,d]
 congr 4
 omega
theorem aFy {b:Int} {w:Bool} (h:Ct.pK n S l b w=true):(bJ n S l).2=0:=by
 unfold Ct.pK at h;grind
def mz {b:Int} {w:Bool} (f:0<=l/\l<C.aF) (e:a=0\/a=1) (d:Ct.pK C.aY.toNat S l b w=true):tD C S l a b w=0:=by
 unfold tD;rw[bA0<|by unfold vH;simp;omega,aaa,aaa,bA0<|by rw[d];simp]
theorem RX.jY (hC:C.Ok) (x:dD C N M) (h:RX C A0 M V) {a:vR} (p:(i:Int)<C.aB) (D:M.bH.iC i=false) (y:aT.iI (M.aD i)=some a)
  (E:0<=a.dF/\a.dF<C.aF*2) (z:(Au C M V).Ql (M.aD i).bA a.dF=true) (hc:Ct.pK C.aY.toNat (M.bT i).S (a.dF/2) o a.iS=true):
  ∃V',RX C A0 (M.jY C i (a.dF/2) (a.dF % 2) o a).1 V':=by
 have d:i<4:=FI
 obtain⟨k,t⟩:=aL<|show 0<=a.dF/2 by omega
 have g:a.dF % 2=0\/a.dF % 2=1:=FA
 have f:=aFy hc
 rw[t] at f hc
 have u:=h.rX.value d FA f
 have w:a.dF.toNat/2=k:=FA
 have em:a.dF.toNat % 2=0↔a.dF % 2=0:=FA
 have B:=aBs (A:=Au C M V) (i:=i) (a:=a) (b:=false) (v:=if a.Fz then Ip C (M.bT i) k (a.dF % 2) else 0) p y z (by
  unfold Ip aWc Cw;grind)
 have j:sV C M.aK (bD M.bT i<|if a.Fz then pH C (M.bT i) k (a.dF % 2) o else M.bT i) V (dL C M.cB):=by
  split;exact h.rX.aKy d p;rw[zM];exact h.rX
 unfold bR.jY
 rw[t]
 refine⟨if a.iS then Fb V a.dF.toNat a.value else V,?_⟩
 refine h.Q1 hC x (b:=false) (M1:=M.jX i _) D rfl rfl rfl rfl rfl rfl ?_ B
 cases hwr:a.iS with
 |false=>exact j
 |true=>
  rw[hwr] at hc
  have q:tD C (bD M.bT i (if a.Fz then pH C (M.bT i) k (a.dF % 2) o else M.bT i) i).S k (a.dF % 2) o true=0:=by
   rw[Ab.dJ];refine mz FA g ?_;split;unfold pH;rw[bA1<|mz FA g<|Sh hc];unfold Ct.pK at hc ⊢;rw[Hq (h.rX.yK i d).aY f];exact hc;exact hc
  have:=j.aU4 (v:=a.value) d p q
  rw[Ab.dJ,Ag] at this
  have G:bD V k (aKn (V k) (a.dF % 2) a.value)=Fb V a.dF.toNat a.value:=by
   unfold Fb aKn;rw[w];congr 1;by_cases e:a.dF % 2=0;rw[bA1 e,bA1<|em.2 e];grind
  grind
theorem RX.fF (hC:C.Ok) (k:dD C N M) (h:RX C A0 M V) {a:vR} (f:(i:Int)<C.aB) (y:M.bH.iC i=false) (q:aT.iI (M.aD i)=some a):
  ∃V',RX C A0 (M.fF C i a).1 V':=by
 unfold bR.fF
 by_cases d:0<=a.dF/\a.dF<C.aF*2
 rotate_left
 .rw[bA1 d];exact⟨V,h.Q1 hC k y rfl rfl rfl rfl rfl rfl h.rX<|ky (A:=Au C M V) (b:=false) f q<|by exact bA0 d⟩
 rw[bA0 fun e=>e d]
 by_cases g:((M.aU i).uB C (M.aD i).bA<|a.dF/2/2).2≠0
 .grind
 rw[bA0 g]
 have g:((M.aU i).uB C (M.aD i).bA<|a.dF/2/2).2=0:=aW.1 g
 unfold jL.uB at g ⊢
 split at g
 rotate_left
 .cases g
 rename_i t
 rw[bA1 t]
 cases hkn:jD (M.aU i).bN (a.dF/2/2) with
 |none=>
  rw[bA1 rfl]
  unfold bR.Cm
  dsimp only
  by_cases z:((M.aU i).dK C<|a.dF/2/2).2.2≠0
  .grind
  rw[bA0 z]
  split
  .exact⟨V,h⟩
  .rename_i p;have D:=(gG<|aW.1 p).1;refine⟨V,?_,?_,h.U4,h.uB,h.eY⟩
   .exact(h.rX.O5 (N':=[_]) fun x H=>by rw[aV.1 H];show ¬PK 6;decide).cH D.symm
   .exact(h.gE.Cm f<|aW.1 z).cH D.symm
 |some o=>
  have B:=aRy (bA:=(M.aD i).bA) k h f d (by unfold bQ.aF;omega) hkn
  have v:M.bN i (a.dF/2/2)=o:=by unfold bR.bN;rw[hkn];rfl
  by_cases j:yL (M.aD i).bA o=true
  rotate_left
  .simp only[bA0 j];exact⟨V,h.Q1 hC k y rfl rfl rfl rfl rfl rfl h.rX<|ky (A:=Au C M V) (b:=false) f q FB⟩
  .have e:(if yL (M.aD i).bA o=true then((1:Int),(0:Int)) else(2,0))=(1,0):=bA1 j;simp only[e];rw[bA0 FC,bA0 FC,v];split
   .unfold bR.fV;obtain⟨I,out,e,G,E,_⟩:=h.rX.aUv hC FI f (l:=a.dF/2) (w:=(M.aD i).bA) (wr:=a.iS);have u:=aI5 (C:=C) (core:=(i:Int)) (s:=M.bT i) (l:=a.dF/2) (w:=(M.aD i).bA) (wr:=a.iS);rw[G] at u ⊢;dsimp only at u ⊢;split
    .exact⟨V,h⟩
    .split
     .exact⟨V,h⟩
     .rename_i p;exact⟨V,h.aY9 (gG<|aW.1 p).1 u rfl rfl rfl rfl rfl rfl E⟩
   .refine h.jY hC k f y q d FB ?_;grind
variable {L:IA}
def wu (b:dD C N M) (h:M.bH.phase g=0):M.bH.eI g=none:=by
 unfold Mon.phase Mon.run at h;rw[aac,aM] at h;cases hr:M.bH.eI g with
 |none=>rfl
 |some r=>rw[hr] at h;have:=(b.bH.run g r hr).2.2.1;dsimp only at h;omega
def nw:(es.set g ⟨(es.getD g pU).owner,b⟩).map mP.owner=es.map mP.owner:=by
 apply q6;intro k;rw[km,km,CF];by_cases e:g=k;subst e;rw[bA1 rfl];split;rename_i h;rw[aP,bj h];rfl;rw[z1 FA];rw[bA0 e]
theorem RX.call (hC:C.Ok) (w:dD C N M) (h:RX C A0 M V) {a:Mc.Nk} (U:(i:Int)<C.aB) (O:M.bH.iC i=false) (y:aT.xR (M.aD i) i=some a):RX C A0 (M.call C i a).1 V:=by
 have z:a.core=i:=by obtain⟨x,_,_,rfl⟩:=Zo y;rfl
 have J:=w.bH.len;have T:=hC.2.1;unfold bR.call;dsimp only;have fail:∀e:Int,(Au C M V).call a.call a.bA a.aS a.to (decide<|e=17)=(Au C M V,e)->RX C A0 (M.bL i 0 e).1 V:=fun e R=>
  h.Q1 hC w O rfl rfl rfl rfl rfl rfl h.rX (xp (A:=Au C M V) U y R)
 have j:(Au C M V).dA.length=M.bH.eQ.length:=FB
 have H:¬¬(0<=a.core/\a.core<C.aB):=FA
 by_cases k:M.bH.kG a.aS;rotate_left;have b:M.bH.call C.aB a=(M.bH,false,10):=by unfold Mon.call;rw[bA0 H,bA1 k]
 rw[b];dsimp only;refine fail 10 ?_;unfold AM.call;rw[bA1<|by rw[j];exact k];have u:¬¬M.bH.kG a.aS:=fun e=>e k;have t:0<=a.aS/\a.aS<M.bH.eQ.length:=k;obtain⟨g,q⟩:=aL t.1;by_cases P:M.bH.phase a.aS≠0;have b:M.bH.call C.aB a=(M.bH,false,17):=by unfold Mon.call;rw[bA0 H,bA0 u,bA1 P]
 rw[b];dsimp only;refine fail 17 ?_;unfold AM.call;grind;have S:¬M.bH.iC a.core=true:=by rw[z,O];simp
 have v:M.bH.phase g=0:=FB
 have G:=wu w v;have I:(Au C M V).dA.getD a.aS.toNat 0=(M.bH.jW a.aS).owner:=by
  show(M.bH.eQ.map mP.owner).getD _ _=_;rw[Ud FA];rfl
 by_cases p:(jP a.call a.bA (M.bH.jW a.aS).owner a.to).2.2≠0;have b:M.bH.call C.aB a=(M.bH,false,(jP a.call a.bA (M.bH.jW a.aS).owner a.to).2.2):=by unfold Mon.call;grind
 rw[b];rw[bA1 p];refine fail _ ?_;unfold AM.call;grind;have b:M.bH.call C.aB a=((M.bH.oO a.aS.toNat ⟨(M.bH.jW a.aS).owner,true⟩).dO a.aS.toNat<|some<|a.run C.aB<|jP a.call a.bA (M.bH.jW a.aS).owner a.to,true,0):=by
  unfold Mon.call;grind
 rw[b];dsimp only;rw[bA0 FF];have p:(jP a.call a.bA (M.bH.jW a.aS).owner a.to).2.2=0:=aW.1 p;split;exact h;rename_i Q;have E:=(gG<|aW.1 Q).1;have D:(g:Int)<C.aJ:=FA
 rw[q] at E ⊢;rw[aM];constructor;exact(h.rX.O5 fun x W=>by rw[(C7 W).1];decide).cH E.symm;exact(h.gE.iC hC FA D G).cH E.symm;intro d r b f;have b:bD M.bH.eI g _ d=some r:=b;unfold bD at b;split at b;cases b;exact absurd (show(1:Int)=2 from f) FC;exact h.U4 d r b f;intro d r b;have b:bD M.bH.eI g _ d=some r:=b;unfold bD at b;show aT.xR (M.aD r.core.toNat) r.core.toNat=_/\jP r.call r.bA ((M.bH.oO g ⟨(M.bH.jW g).owner,true⟩).jW d).owner r.to=_;rw[H7 FA FA];split at b;rename_i e;cases b;rw[aac,e];have B:(a.run C.aB<|jP a.call a.bA (M.bH.jW g).owner a.to).core.toNat=i:=by show a.core.toNat=i;omega
 rw[B];refine⟨?_,?_⟩;rw[y];obtain⟨X,c2,c3,Y,c5⟩:=a;dsimp only at q;rw[q];rfl;rw[<-q];exact Prod.ext rfl<|Prod.ext rfl p;rw[aaa];exact h.uB d r b;show jI A0 M.eY 0=(⟨C,M.aD,(M.bH.eQ.set g ⟨(M.bH.jW g).owner,true⟩).map mP.owner,V⟩,_,_);have:(M.bH.eQ.set g ⟨(M.bH.jW g).owner,true⟩).map mP.owner=M.bH.eQ.map mP.owner:=by
  unfold Mon.jW;rw[aM];exact nw
 rw[this];exact h.eY
theorem RX.step (hC:C.Ok) (j:dD C N M) (h:RX C A0 M V):∃V',RX C A0 (M.step C a).1 V':=by
 unfold bR.step;by_cases g:0<=a/\a<C.aB;rotate_left;grind;rw[bA0 fun e=>e g];dsimp only;obtain⟨i,t⟩:=aL g.1;subst t;split;exact⟨V,h⟩;split;exact⟨V,h⟩;rename_i f;have f:M.bH.iC (i:Int)=false:=by unfold bR.aH at f;simpa using f
 split;rename_i r k;obtain⟨p,q⟩:=aGf (A:=Au C M V) (b:=false) g.2 k;exact⟨V,h.aQh hC j f (s:=r.1) (v:=r.2) rfl rfl rfl rfl rfl rfl h.rX (Sy k)<|by rw[q];exact p⟩;split;rename_i a d;exact⟨V,h.call hC j g.2 f d⟩;split;rename_i a d;exact h.fF hC j g.2 f d;exact⟨V,h⟩
def oN (b:(g:Int)<C.aJ):g*2<C.aF/\g*2+1<C.aF:=by unfold bQ.aF;omega
theorem RX.D5 (E:dD C N M) (h:RX C A0 M V):RX C A0 (M.dK C a).1 V:=by
 unfold bR.dK;obtain⟨u,out,e,y,G,_,Q⟩:=h.rX.D5 (l:=a) (j:=M.gC C a);have f:=Sx (C:=C) (H:=M.aK) (l:=a) (j:=M.gC C a);have d:(eO C M.aK a<|M.gC C a).1=u:=by rw[y]
 rw[y] at f ⊢;dsimp only at f ⊢;split;exact h;split;exact h;rename_i D;have z:=(gG<|aW.1 D).1;refine⟨G.cH z.symm,(h.gE.O5 f).cH z.symm,fun g r t q=>?_,h.uB,h.eY⟩;have hold:=h.U4 g r t q;have b:=(E.bH.run g r t).1;have O:=(h.gE.vY g b).2 (by rw[t];rfl);have P:∀k:Nat,k<C.aF->k/2=g->R4 (M.aK k).1->R4 (u k).1:=fun k p J B=>by
  by_cases e:(k:Int)=a;subst e;have I:∀x,(M.gC C k x).2=false:=fun x=>by
   unfold bR.gC;grind
  rw[<-d];unfold eO;rw[bA1 GM,aM];show R4 (bD M.aK k _ k).1;rw[Ab.dJ];unfold iN.dK;by_cases v:(M.aK k).1.busy=true;grind;rw[bA0 v];cases hwt:(M.aK k).1.aH with
  |nil=>exact B
  |cons n w=>exact B.eX (by simpa using v) hwt (h.rX.aI k p) I
  grind
 have R:=oN b;grind
def Ks {n:aG} (h:Nt.gE C n=0) (d:n.kind=7\/n.kind=13):0<=n.no/\n.no<C.aJ:=by
 unfold Nt.gE at h;split at h;split at h;split at h;rename_i g;have b:=g.1;have:I8 n.kind.toNat=[1,13]:=by rcases d with e|e<;>rw[e]<;>rfl
 rw[this] at b;unfold jK at b;split at b;unfold jK at b;split at b;rename_i f;exact f;cases b;cases b;cases h;cases h;cases h
theorem RX.cU (hC:C.Ok) (y:dD C N M) {n:aG} (hp:(dL C M.cB).Perm (n::L)) (Z:Nt.gE C n=0) (h:RX C A0 M V) (t:(M.cU C n).2.2=0):
  ∀F:eN,(dL C F).Perm ((M.cU C n).2.1++L)->RX C A0 ((M.cU C n).1.bM F) V:=by
 intro F hF
 have q:=h.rX.cH hp
 have j:=h.gE.cH hp
 obtain⟨ε,U⟩:=fI Z
 obtain⟨i,S⟩:=aL U.1
 have G:n.core.toNat=i:=FA
 have v:(i:Int)<C.aB:=FA
 have γ:=y.bH.len
 have δ:=hC.2.1
 unfold bR.cU at t hF ⊢
 by_cases k1:n.kind=1\/n.kind=2\/n.kind=3\/n.kind=4\/n.kind=5
 .rw[bA1 k1] at t hF ⊢;dsimp only at t hF ⊢;obtain⟨H',out,R,T,_,hH⟩:=q.aL1 hC FA;have I:=Xj (C:=C) (H:=M.aK) (n:=n);rw[R] at hF I;have E:(eW C M.aK n).1=H':=by rw[R]
  rw[E]
  refine⟨T.cH hF.symm,((j.skip FR).O5 I).cH hF.symm,fun g r P u=>?_,h.uB,h.eY⟩
  have hold:=h.U4 g r P u
  have hl:=oN (y.bH.run g r P).1
  have θ:∀k:Nat,k<C.aF->R4 (M.aK k).1->R4 (H' k).1:=fun k Y hs=>by
   by_cases e:(k:Int)=n.aI;rw[<-E];have O:=q.nb n c9 GZ;unfold eW;rw[bA0<|by unfold Hm.cU;omega,bA1 ⟨O.1,by exact O.2⟩];show R4 (bD M.aK n.aI.toNat _ k).1;rw[show n.aI.toNat=k by omega,Ab.dJ,<-e];have y:=q.aI k Y;rw[Rw e.symm GZ] at y;exact hs.take y FA;grind
  grind
 rw[bA0 k1] at t hF ⊢
 by_cases k2:n.kind=8\/n.kind=9\/n.kind=10\/n.kind=11
 .rw[bA1 k2] at t hF ⊢;obtain⟨s',out,R,T,_⟩:=q.U3 hC FA;have I:=aAb (C:=C) (core:=n.core) (s:=M.bT n.core.toNat) (n:=n);rw[R] at hF I ⊢;exact⟨T.cH hF.symm,((j.skip FR).O5 I).cH hF.symm,h.U4,h.uB,h.eY⟩
 rw[bA0 k2] at t hF ⊢
 have β:¬PK n.kind:=GZ
 have d:=q.skip β
 by_cases k6:n.kind=6
 .rw[bA1 k6] at t hF ⊢;exact⟨(d.O5 (N':=[_]) fun x B=>by rw[aV.1 B];show ¬PK 12;decide).cH hF.symm,(j.dS FA FA y.bH.Ve v S k6).2.cH hF.symm,h.U4,h.uB,h.eY⟩
 rw[bA0 k6] at t hF ⊢
 by_cases D:n.kind=12
 .rw[bA1 D] at t hF ⊢;dsimp only at t hF ⊢;rw[G] at hF ⊢;refine⟨(d.O5 fun x B=>?_).cH hF.symm,(j.eU v S D FA).2.cH hF.symm,h.U4,h.uB,h.eY⟩;split at B
  .cases B
  .rw[aV.1 B];show ¬PK 6;decide
 rw[bA0 D] at t hF ⊢
 by_cases w:n.kind=13
 .rw[bA1 w] at t hF ⊢;rw[G];exact⟨(d.O5 (N':=[_]) fun x B=>by rw[aV.1 B];show ¬PK 7;decide).cH hF.symm,(j.eF v S w<|Ks Z<|.inr w).2.cH hF.symm,h.U4,h.uB,h.eY⟩
 rw[bA0 w] at t hF ⊢
 by_cases k7:n.kind=7
 rotate_left
 .grind
 rw[bA1 k7] at t hF ⊢
 dsimp only at t hF ⊢
 have α:=Ks Z<|.inl k7
 obtain⟨g,hg⟩:=aL α.1
 obtain⟨r,P,ζ,η,W,J⟩:=j.dE (g:=g) hC y.bH v S k7 hg
 rw[W]
 rw[gk] at hF
 dsimp only
 have X:=(y.bH.run g r P).1
 have hl:=oN X
 have z:∀p f,(M.bH.dO g<|some (r.dE i).gX).eI p=some f->aT.xR (M.aD f.core.toNat) f.core.toNat=some ⟨f.core,f.bA,f.call,p,f.to⟩/\jP f.call f.bA (M.bH.jW p).owner f.to=(f.kC,f.oG,0):=fun p f b=>by
  have b:bD M.bH.eI g _ p=some f:=b;unfold bD at b;by_cases e:p=g;subst e;rw[bA1 rfl] at b;cases b;exact h.uB p r P;rw[bA0 e] at b;exact h.uB p f b
 by_cases ha:(r.dE i).none=true
 .rw[ha,bA1 rfl];refine⟨?_,J.cH hF.symm,fun p f b u=>?_,z,h.eY⟩
  .exact(d.Eu.Eu).cH hF.symm
  .have b:bD M.bH.eI g _ p=some f:=b;unfold bD at b;have Q:∀k:Nat,oJ C M.aK n.no k=if k=g*2\/k=g*2+1 then iN.mf (M.aK k) k else M.aK k:=fun k=>by
    have e1:n.no*2=((g*2:Nat):Int):=FA
    have e2:n.no*2+1=((g*2+1:Nat):Int):=FA
    unfold oJ jS;rw[e2,e1,bA1 GM,bA1 GM,aM,aM];dsimp only;by_cases e:k=g*2;subst e;rw[Ab.bO FA,Ab.dJ,bA1<|.inl rfl];by_cases e2:k=g*2+1;subst e2;rw[Ab.dJ,bA1<|.inr rfl,Ab.bO FA];rw[Ab.bO e2,Ab.bO e,aaa]
   show R4 (oJ C M.aK n.no<|p*2).1/\R4 (oJ C M.aK n.no<|p*2+1).1
   rw[Q,Q]
   by_cases e:p=g
   .subst e;rw[bA1<|.inl rfl,bA1<|.inr rfl];exact⟨.inl Mp,.inl Mp⟩
   .rw[bA0 e] at b;rw[aaa,aaa];exact h.U4 p f b u
 .rw[bA0 ha];refine⟨d.cH hF.symm,J.cH hF.symm,fun p f b u=>?_,z,h.eY⟩;have b:bD M.bH.eI g _ p=some f:=b;unfold bD at b;split at b
  .cases b;have:(if(r.dE i).none=true then(2:Int) else r.phase)=2:=u;grind
  .exact h.U4 p f b u
def RX.Hg (hC:C.Ok) (e:dD C N M) (h:RX C A0 M V) {b:Int}:RX C A0 (M.cZ C a b c).1 V:=by
 unfold bR.cZ;dsimp only;split;exact h;rename_i d;have d:(M.cB.take C a b c).2.2=0:=aW.1 d;split;exact h;rename_i f;split;exact h;rename_i g;exact h.cU hC e (oW d) (Mz e.cB d).1.gE (aW.1 f) _<|(gG<|aW.1 g).1
theorem zQ {H:nD} (g:k<C.aF) (h:¬gO C H k>0):¬Lr (H k).1:=by
 unfold gO at h;rw[bA1 GM,aM] at h;unfold bP.Eu at h;rintro (⟨e,f⟩|⟨x,d,b⟩);grind;have:0<((H k).1.aH.filter fun n=>decide<|n.kind=0).length:=DO.2<|List.ne_nil_of_mem<|BB.2 ⟨d,cL b⟩;split at h<;>omega
def _root_.Go.Pc.sV.oG {H:nD} (h:sV C H X V L) (u:(g:Int)<C.aJ) (k:Pc.vN (H<|g*2).1) (p:Pc.vN (H<|g*2+1).1):sV C (nS H g) X (At.oG V g) L:=by
 refine⟨fun l t=>?_,h.yK,h.Bc,h.kD,h.nb⟩;have d:=h.aI l t;have b:Pc.vN (H l).1->gB l (H l).1 (0,0) (0,0) (rY C X l) (H5 l L):=fun q=>by
  obtain⟨j,c2⟩:=d.aKz q;exact d.aIn j fun x f=>⟨(c2 x f).1,fun e=>absurd e (c2 x f).2.1⟩
 unfold nS At.oG;by_cases e:l=g*2;subst e;rw[bA1<|.inl FA,Ab.bO FA,Ab.dJ];exact b k;by_cases e2:l=g*2+1;subst e2;rw[bA1<|.inr FA,Ab.dJ];exact b p;rw[aaa,Ab.bO e2,Ab.bO e];exact d
theorem Xo (h:RX C A0 M V) (k:(M.gI C a).2=0):
  ∃g r,a=((g:Nat):Int)/\(g:Int)<C.aJ/\M.bH.eI g=some r/\r.phase=2/\(Pc.vN (M.aK<|g*2).1/\Pc.vN (M.aK<|g*2+1).1)/\
   M.gI C a=bR.bL (if r.oG then(M.jH<|(M.bH.oO r.aS.toNat ⟨r.kC,false⟩).dO g none).mI (nS M.aK r.aS) else M.jH ((M.bH.oO r.aS.toNat ⟨r.kC,false⟩).dO g none)) r.core.toNat 0 0:=by
 unfold bR.gI at k ⊢
 by_cases j:0<=a/\a<C.aJ
 rotate_left
 .rw[bA1 j] at k;cases k
 obtain⟨g,u⟩:=aL j.1
 subst u
 by_cases d:M.gX C g=false
 .grind
 have d:M.gX C g=true:=by simpa using d
 unfold bR.gX at d
 simp only[ep,y0,AN,BM] at d
 obtain⟨⟨f,x⟩,p⟩:=d
 have b:M.bH.run g=M.bH.eI g:=by unfold Mon.run;rw[aac,aM]
 cases hr:M.bH.eI g with
 |none=>unfold Mon.phase at f;rw[b,hr] at f;cases f
 |some r=>
  have w:r.phase=2:=by unfold Mon.phase at f;grind
  have t:=oN j.2
  have hold:=h.U4 g r hr w
  have y:Pc.vN (M.aK<|g*2).1:=by
   rcases hold.1 with e|e;exact absurd e<|zQ t.1 FB;exact e
  have z:Pc.vN (M.aK<|g*2+1).1:=by
   rcases hold.2 with e|e;exact absurd e (zQ t.2<|by exact p);exact e
  by_cases q:M.bH.kG g
  .have v:M.bH.over g=((M.bH.oO r.aS.toNat ⟨r.kC,false⟩).dO g none,some r,0):=by
    unfold Mon.over;rw[bA0 fun e=>e q,b,hr];dsimp only;grind
   grind
  .have v:M.bH.over g=(M.bH,none,10):=by unfold Mon.over;rw[bA1 q]
   grind
def aSj (V:Nat->Ln) (b:Bool) (g:Nat):Nat->Ln:=if b then At.oG V g else V
theorem RX.gI (hC:C.Ok) (y:dD C N M) (X:Dc M) (h:RX C A0 M V) (t:(g:Int)<C.aJ) (w:M.bH.eI g=some r) (hp:r.phase=2) (q:Pc.vN (M.aK<|g*2).1/\Pc.vN (M.aK<|g*2+1).1):
  RX C A0 (bR.bL (if r.oG then(M.jH<|(M.bH.oO r.aS.toNat ⟨r.kC,false⟩).dO g none).mI (nS M.aK r.aS) else M.jH ((M.bH.oO r.aS.toNat ⟨r.kC,false⟩).dO g none)) r.core.toNat 0 0).1 (Mc.aSj V r.oG g)/\
  (bR.bL (if r.oG then(M.jH<|(M.bH.oO r.aS.toNat ⟨r.kC,false⟩).dO g none).mI (nS M.aK r.aS) else M.jH ((M.bH.oO r.aS.toNat ⟨r.kC,false⟩).dO g none)) r.core.toNat 0 0).2=0:=by
 obtain⟨O,Z⟩:=h.uB g r w
 have P:=y.bH.len
 have u:=y.bH.run g r w
 obtain⟨i,hi⟩:=aL u.2.2.2.1.1
 have D:r.core.toNat=i:=FA
 have B:(i:Int)<C.aB:=FA
 rw[D] at O
 have Y:r.aS=g:=u.2.1
 have S:(Au C M V).dA.length=M.bH.eQ.length:=by show(M.bH.eQ.map _).length=_;rw[js]
 have p:(Au C M V).dA.getD (g:Int).toNat 0=(M.bH.jW g).owner:=by
  show(M.bH.eQ.map mP.owner).getD _ _=_;rw[Ud FA];rfl
 have j:(Au C M V).call r.call r.bA g r.to (decide<|(0:Int)=17)=(⟨C,M.aD,(M.bH.eQ.map mP.owner).set g r.kC,Mc.aSj V r.oG g⟩,0):=by
  unfold AM.call;rw[aaa,bA0 FC,p,Z,bA0 FF];rfl
 have H:=xp (A:=Au C M V) (e:=0) B O j
 obtain⟨x,J,z⟩:=H
 have z:xX (aT.bL (M.aD i) i 0 0).2.1=false:=z
 have x:(Au C M V).step i false=_:=x
 have k:=Bs J
 generalize W:(if r.oG then(M.jH<|(M.bH.oO r.aS.toNat ⟨r.kC,false⟩).dO g none).mI (nS M.aK r.aS) else M.jH ((M.bH.oO r.aS.toNat ⟨r.kC,false⟩).dO g none))=M1
 have I:M1.aD=M.aD:=FB
 have m2:M1.eY=M.eY:=FB
 have v:M1.bH=(M.bH.oO g ⟨r.kC,false⟩).dO g none:=FB
 have Q:M1.aK=if r.oG then nS M.aK g else M.aK:=FB
 have m5:M1.aU=M.aU:=FB
 have R:M1.cB=M.cB:=FB
 have m7:M1.bT=M.bT:=FB
 have T:M1.bL r.core.toNat 0 0=((M1.pC i (aT.bL (M.aD i) i 0 0).1).Za (aT.bL (M.aD i) i 0 0).2.1,0):=by
  unfold bR.bL;dsimp only;have U:(aT.bL (M1.aD i) i 0 0).2.2=0:=by rw[I];exact J
  grind
 rw[T]
 refine⟨?_,rfl⟩
 constructor
 case rX=>
  rw[Q,R,m7]
  unfold Mc.aSj
  split
  .exact h.rX.oG t q.1 q.2
  .exact h.rX
 case gE=>
  rw[v,m5,R]
  exact(h.gE.over hC FA t w hp).1
 case U4=>
  rw[v,Q]
  intro d f b G
  have b:bD M.bH.eI g none d=some f:=b
  unfold bD at b
  by_cases e:d=g
  .grind
  .rw[bA0 e] at b;have:=h.U4 d f b G;split
   .unfold nS;grind
   .exact this
 case uB=>
  intro d f b
  have b:M1.bH.eI d=some f:=b
  rw[v] at b
  have b:bD M.bH.eI g none d=some f:=b
  unfold bD at b
  by_cases e:d=g
  .grind
  rw[bA0 e] at b
  have E:f.core.toNat≠i:=fun e2=>by
   have h1:=(y.bH.run d f b).2.2.2.1;refine e<|X.E8 d g r.core ?_ ?_;unfold rc;grind;unfold rc;rw[w];rfl
  show aT.xR (bD M1.aD i _ f.core.toNat) _=_/\jP _ _ (M1.bH.jW d).owner _=_
  rw[I,v,Ab.bO E]
  have:((M.bH.oO g ⟨r.kC,false⟩).dO g none).jW d=M.bH.jW d:=by
   show(M.bH.oO g _).jW d=_;rw[H7 FA FA,aaa]
  rw[this]
  exact h.uB d f b
 case eY=>
  rw[<-k,<-z] at x
  have:=nh h.eY x
  show jI A0 (M1.eY++_) 0=(⟨C,bD M1.aD i _,M1.bH.eQ.map mP.owner,_⟩,(M1.eY++_).length,0)
  rw[I,m2,v,this]
  have:((M.bH.oO g ⟨r.kC,false⟩).dO g none).eQ.map mP.owner=(M.bH.eQ.map mP.owner).set g r.kC:=by
   show(M.bH.eQ.set g _).map _=_;rw[List.map_set]
  rw[this]
theorem Dw (h:(M.bL i v c).2≠0):(M.bL i v c).1=M:=by
 unfold bR.bL at h ⊢;grind
theorem RX.Ga (hC:C.Ok) (v:dD C N M) (w:Dc M) (h:RX C A0 M V):∃V',RX C A0 (M.gI C a).1 V':=by
 by_cases b:(M.gI C a).2=0;obtain⟨g,r,rfl,d,j,f,t,B⟩:=Xo h b;rw[B];exact⟨_,(h.gI hC v w d j f t).1⟩;refine⟨V,?_⟩;suffices u:(M.gI C a).1=M by rw[u];exact h
 unfold bR.gI at b ⊢;by_cases p:¬(0<=a/\a<C.aJ);rw[bA1 p];rw[bA0 p] at b ⊢;by_cases q:M.gX C a=false;rw[bA1 q];rw[bA0 q] at b ⊢;dsimp only at b ⊢;cases ho:(M.bH.over a).2.1 with
 |none=>rfl
 |some r=>
  obtain⟨g,D⟩:=aL (aW.1 p).1;subst D;have E:M.bH.kG g:=by
   apply gg;intro e;unfold Mon.over at ho;rw[bA1 e] at ho;cases ho
  have k:M.bH.run g=M.bH.eI g:=by unfold Mon.run;rw[aac,aM]
  unfold Mon.over at ho b;rw[bA0 fun e=>e E,k] at ho b;cases j:M.bH.eI g with
  |none=>grind
  |some G=>
   rw[j] at ho b;dsimp only at ho b;split at ho;cases ho;rename_i f;cases ho;have d:=(aW.1 p).2;have u:M.gX C g=true:=by simpa using q
   unfold bR.gX at u;have f:r.phase=2:=aW.1 f;have x:=oN d;have hold:=h.U4 g r j f;have y:Pc.vN (M.aK<|g*2).1:=by
    rcases hold.1 with e|e;exact absurd e<|zQ x.1 FB;exact e
   have z:Pc.vN (M.aK<|g*2+1).1:=by
    rcases hold.2 with e|e;exact absurd e<|zQ x.2 FB;exact e
   have:=(h.gI hC v w d j f ⟨y,z⟩).2;grind
def RX.mK (hC:C.Ok) (b:dD C N M) (e:Dc M) (h:RX C A0 M V) {d:Do}:∃V',RX C A0 (M.mK C d).1 V':=by
 unfold bR.mK;split;exact h.step hC b;split;exact⟨V,h.Hg hC b⟩;split;exact⟨V,h.D5 b⟩;split;exact h.Ga hC b e;exact⟨V,h⟩
variable {ps:List (ID)}
theorem RX.kD {ws os vs:EV} (hC:C.Ok) (d:(os.length:Int)=C.aJ):RX C (B8 C ps ws os vs) (MC.kD ⟨C,ps,ws,os,vs⟩) (At.uA uF vs 0):=by
 have f:∀F:Nat->IA,(∀c,F c=[])->(List.range C.aB.toNat).flatMap F=[]:=fun F h=>by
  simp_all
 have b:dL C (MC.kD ⟨C,ps,ws,os,vs⟩).cB=[]:=by
  rw[dL];exact f _ fun c=>by rw[List.flatMap_eq_nil_iff];exact fun _ _=>rfl
 constructor;rw[b];refine⟨fun l d=>?_,fun _ _=>fj,fun _ _=>Kz.kD,fun _ _=>rfl,FB⟩;have e:((MC.kD ⟨C,ps,ws,os,vs⟩).aK l).1=Ee:=by
  show(sM C.aF l).1=Ee;rw[sM];rw[bA1 d]
 rw[e];have e2:rY C (MC.kD ⟨C,ps,ws,os,vs⟩).bT l=fun _=>⟨0,(0,0),false,false,false,0,(0,0)⟩:=by
  funext i;exact aH0
 exact(gB.zero l).aIn (fun _ _=>rfl) FB;rw[b];refine mB.kD (es:=os.map fun o=>(⟨o,_⟩:mP)) FB hC.2.1.1 fun x g=>?_;grind;exact fun _ _ h=>FH
 exact fun _ _ h=>FH
 have:(os.map fun o=>(⟨o,false⟩:mP)).map mP.owner=os:=by
  rw[BT];show os.map (fun o=>o)=os;exact List.map_id' os
 show _=((⟨C,_,(os.map fun o=>(⟨o,_⟩:mP)).map mP.owner,_⟩:AM),0,0);rw[this];rfl
def RY (C:bQ) (M:bR) (V:Nat->Ln):Prop:=∃A0,RX C A0 M V
def RY.rX (h:RY C M V):sV C M.aK M.bT V (dL C M.cB):=let⟨_,h⟩:=h;h.rX
def RY.gE (h:RY C M V):mB C M.aU M.bH (dL C M.cB):=let⟨_,h⟩:=h;h.gE
def RY.U4 (h:RY C M V):∀g r,M.bH.eI g=some r->r.phase=2->R4 (M.aK<|g*2).1/\R4 (M.aK<|g*2+1).1:=let⟨_,h⟩:=h;h.U4
def RY.uB (h:RY C M V):∀g r,M.bH.eI g=some r->aT.xR (M.aD r.core.toNat) r.core.toNat=some ⟨r.core,r.bA,r.call,g,r.to⟩/\jP r.call r.bA (M.bH.jW g).owner r.to=(r.kC,r.oG,0):=let⟨_,h⟩:=h;h.uB
def RY.mK (hC:C.Ok) (b:dD C N M) (e:Dc M) (h:RY C M V) {d:Do}:∃V',RY C (M.mK C d).1 V':=by
 obtain⟨A0,h⟩:=h;have⟨V',h'⟩:=h.mK hC b e (d:=d);exact⟨V',A0,h'⟩
theorem Rf (h:RY C M V) (b:(M.gI C a).2=0):
  ∃g r,a=((g:Nat):Int)/\(g:Int)<C.aJ/\M.bH.eI g=some r/\r.phase=2/\(Pc.vN (M.aK<|g*2).1/\Pc.vN (M.aK<|g*2+1).1)/\
   M.gI C a=bR.bL (if r.oG then(M.jH<|(M.bH.oO r.aS.toNat ⟨r.kC,false⟩).dO g none).mI (nS M.aK r.aS) else M.jH ((M.bH.oO r.aS.toNat ⟨r.kC,false⟩).dO g none)) r.core.toNat 0 0:=let⟨_,h⟩:=h;Xo h b
theorem RY.gI (hC:C.Ok) (e:dD C N M) (f:Dc M) (h:RY C M V) (d:(g:Int)<C.aJ) (k:M.bH.eI g=some r) (j:r.phase=2) (b:Pc.vN (M.aK<|g*2).1/\Pc.vN (M.aK<|g*2+1).1):
  (bR.bL (if r.oG then(M.jH<|(M.bH.oO r.aS.toNat ⟨r.kC,false⟩).dO g none).mI (nS M.aK r.aS) else M.jH ((M.bH.oO r.aS.toNat ⟨r.kC,false⟩).dO g none)) r.core.toNat 0 0).2=0:=let⟨_,h⟩:=h;(h.gI hC e f d k j b).2
theorem K3 {a:vR} (h:aT.iI s=some a) (hc:c=0\/c=19):(aT.bL s i v c).2.2=0:=by
 grind[aT.iI,aT.bL]
theorem zb {a:Mc.Nk} (h:aT.xR s i=some a):(aT.bL s i v c).2.2=0:=by
 grind[aT.xR,aT.bL]
theorem W7 {n:aG}:∀{fs:EV} {a:aG},(jK C n fs a).1=true->(0<=a.aI/\a.aI<C.aF)->0<=(jK C n fs a).2.aI/\(jK C n fs a).2.aI<C.aF
 |[],a,_,h=>h
 |f::fs,a,b,h=>by
  unfold jK at b ⊢;split;rename_i d;rw[bA1 d] at b;apply W7 b;rw[F6];by_cases g:f=1;grind;by_cases e:f=2;subst e;exact d;grind;exact h
theorem ji {n:aG} (h:Nt.gE C n=0):0<=n.aI/\n.aI<C.aF:=by
 rw[Nt.gE] at h;split at h;split at h;rename_i hC;have b:=bQ.fC hC;split at h;rename_i d;have:=W7 d.1 (show(0:Int)<=0/\(0:Int)<C.aF by omega);grind;cases h;cases h;cases h
theorem Rn {l:IC} {t:Th} (h:t∈l):(Go.Ct.get t.1 l).isSome=true:=by
 grind[Go.Ct.get]
theorem xj {ways:Nat} {s:jR} (b:Go.Ct.nZ n ways s) {t:Th} (d:t∈s.S i):(bJ n s.S t.1).2=0:=by
 have⟨h1,h2⟩:=b.pl i t d;grind[Rn,bJ]
theorem aAw (h:(M.bL i v c).2=0):M.eY.length<(M.bL i v c).1.eY.length:=by
 grind[bR.bL]
end Go.Mc
namespace Go.Pc
open Go.Hm Go.Ct
variable {C:bQ} {r:bP} {n:aG} {m:Ln} {aI:Int}
def Bsy (r:bP):Prop:=r.busy=true->r.cG=true\/r.kK=false
theorem Ry {l:EW} (d:i∈l) (b:i<4):(r.iO l).kK=false:=by
 have:(r.iO l).dS i=true:=by
  show(r.dS i||l.contains i)=true;rw[List.contains_iff_mem.2 d,Bool.or_true]
 cases hq:(r.iO l).kK with
 |false=>rfl
 |true=>have:=hM hq b;simp_all
theorem N0 {d:Ln}:Bsy (r.dZ aI d).1:=fun _=>by
 left;unfold bP.dZ;grind
theorem Bsy.take (h:Bsy r):Bsy (iN.take (r,m) aI n).1.1:=by
 unfold iN.take;split;split;exact h;intro b;cases b;split;split;exact h;unfold iN.nI bP.rest;split;split;intro b;cases b;exact N0;rename_i d;exact fun _=> .inr (by simpa using d);exact h
def Tn {x:Int} (h:r.first x≠ -1):∃i,i∈r.iV x/\i<4:=by
 apply gg;intro j;refine h<|Ii.2 fun c f b=>?_;have g:¬c∈r.iV x:=fun e=>j ⟨c,e,f⟩;rw[tT] at g;have d:r.lY x c=false:=by
  cases e:r.lY x c with
  |false=>rfl
  |true=>exact absurd ⟨f,e⟩ g
 constructor;cases e:r.sh c with
 |false=>rfl
 |true=>rw[uu b e] at d;cases d
 intro e;rw[we b e] at d;cases d
theorem Bsy.eX (h:r.busy=false) (t: -1<=r.owner/\r.owner<4):Bsy (bP.eX r aI m n j).1.1:=by
 have d:∀{p:bP},p.busy=r.busy->Bsy p:=fun e q=>FB
 unfold bP.eX;split;exact d rfl;split;split;unfold bP.get;dsimp only;split;unfold bP.Ky;split;rename_i b;obtain⟨i,g,f⟩:=Tn b;exact fun _=> .inr (Ry g f);exact N0;unfold bP.Jv;split;rename_i b;have k:((r.iM n (j n.bA).1).jZ).owner.toNat<4:=by
  unfold bP.jZ at b ⊢;split;grind;show r.owner.toNat<4;omega
 exact fun _=> .inr (Ry (i:=((r.iM n (j n.bA).1).jZ).owner.toNat) (aV.2 rfl) k);exact N0;exact d rfl;split;exact d rfl;rename_i b;obtain⟨i,g,f⟩:=Tn b;exact fun _=> .inr (Ry g f)
end Go.Pc
variable {no:Int}
namespace Go.Mc
open Go.Hm Go.At Go.Is Go.Ct Go.Nt Go.Pc
variable {C:bQ} {s':jR}
section
variable {o:Nat->Int} {s:jR} {n:aG} {core:Int}
def Tg (C:bQ) (o:Nat->Int) (s:jR):Prop:=∀l:Nat,l<C.aF->(bJ C.aY.toNat s.S l).2=0->(bJ C.aY.toNat s.S l).1.w=o l
theorem Tg.Nh (h:Tg C o s) (e:∀l:Nat,l<C.aF->(bJ C.aY.toNat s'.S l).2=0->(bJ C.aY.toNat s.S l).2=0/\(bJ C.aY.toNat s'.S l).1.w=(bJ C.aY.toNat s.S l).1.w):Tg C o s':=
 fun l b d=>(e l b d).2.trans<|h l b (e l b d).1
theorem Tg.drop (d:iJ C s) (h:Tg C o s) (e:s'.S=jN C.aY.toNat s.S no):Tg C o s':=h.Nh fun l _ b=>by
 rw[e] at b ⊢;by_cases e2:(l:Int)=no;rw[e2,Ix d.aY FA] at b;cases b;grind[nF]
theorem Tg.A4 {x:vU} (g:iJ C s) (h:Tg C o s) (e:s'.S=(pD C.aY.toNat C.ways.toNat s.S no x).1) (d:0<=no) (f:(pD C.aY.toNat C.ways.toNat s.S no x).2=0) (k:x.w=o no.toNat):Tg C o s':=fun l j b=>by
 rw[e] at b ⊢;by_cases e2:(l:Int)=no;rw[e2,zW g.aY d f];grind;rw[mV e2] at b ⊢;exact h l j b
theorem Tg.fV {w:Int} {wr:Bool} (b:iJ C s) (h:Tg C o s):Tg C o (fV C core s l w wr).1:=by
 rw[Ct.fV];split;exact h;split;exact h;split;exact h;split;exact h;rw[zZ];split;exact h;split;exact h;split;exact h.drop b rfl;exact h.drop b rfl
theorem Tg.Fz {g:Int} (b:iJ C s) (h:Tg C o s):Tg C o (pH C s l a g):=by
 rw[pH];split;rename_i f;have⟨_,_,hp,_⟩:=wV f;refine h.Nh fun k _ d=>?_;by_cases e:(k:Int)=l;rw[e,Hq b.aY hp] at d ⊢;grind;grind[D7];exact h
theorem Tg.iS {e:Int} (b:iJ C s) (h:Tg C o s):Tg C o (mU C s l a e v):=by
 rw[mU];split;rename_i d;have⟨hl,_,hp,_⟩:=wV d;apply h.A4 b rfl hl.1<|yF b.aY hp;show(bJ C.aY.toNat s.S l).1.w=_;have:=h l.toNat FA FB;grind;exact h
theorem Tg.take (b:iJ C s) (h:Tg C o s) (e:0<=n.aI/\n.aI<C.aF) (f:n.kind=8->n.bA=o n.aI.toNat) (d:(fP C core s n).2.2=0):Tg C o (fP C core s n).1:=by
 rw[fP] at d ⊢;split;rename_i j;split;exact h;rename_i k;rw[vJ] at d ⊢;split;exact h;split;exact h;split;grind;exact h.A4 b rfl e.1 FA<|f j;split
 .split;exact h
  .rw[Bh];repeat' split
   all_goals exact h
 split
 .split;exact h
  .rw[rS];repeat' split
   all_goals exact h
 split
 .split;exact h
  .rw[lI];split;exact h;split;rename_i g;split;exact h.drop b rfl;apply h.A4 b rfl e.1<|yF b.aY g;have:=h n.aI.toNat FA FB;grind
   .repeat' split
    all_goals exact h
 exact h
end
section
variable {r:bP} {n:aG} {m:Ln}
def RT (o:Int) (r:bP):Prop:=r.busy=true->r.cG=false->r.aX.kind≠0->r.bA=o
def OT (o:Int) (L:IA):Prop:=∀y∈L,y.kind=8->y.bA=o
def Eh:(r.dE n).bA=r.bA/\(r.dE n).busy=r.busy/\(r.dE n).cG=r.cG/\(r.dE n).aX=r.aX:=by
 rw[bP.dE];split;exact⟨rfl,rfl,rfl,rfl⟩;split;split<;>exact⟨rfl,rfl,rfl,rfl⟩;split<;>exact⟨rfl,rfl,rfl,rfl⟩
def S9 {d:Ln} (e:r.bA=o):RT o (r.dZ l d).1/\OT o (r.dZ l d).2:=by
 rw[bP.dZ];split;exact⟨fun _ h=>FH,fun y b _=>by rwa [aV.1 b]⟩;split;exact⟨fun _ h=>FH,fun y b _=>by rwa [aV.1 b]⟩;exact⟨fun _ h=>FH,fun y b _=>by rwa [aV.1 b]⟩
theorem aNw (h:RT o r) (g:vX k r) (t:0<=n.core/\n.core<4):RT o (iN.take (r,m) l n).1.1/\OT o (iN.take (r,m) l n).2.1:=by
 rw[iN.take];split;split;exact⟨h,fun y b=>HV⟩;exact⟨fun e=>(by cases e),fun y b=>HV⟩;split;split;exact⟨h,fun y b=>HV⟩;rename_i _ _ q;have⟨k1,k2,k3,k4⟩:=Eh (r:=r) (n:=n);have f:r.busy=true/\r.cG=false:=by
  have p:¬r.kK=true:=fun p=>by
   grind[hM]
  have:=g.sD;grind
 unfold iN.nI bP.rest;split;split;exact⟨fun e=>(by cases e),fun y b=>HV⟩;rename_i d;rw[k4] at d;exact S9 (by rw[k1];exact h f.1 f.2 d);exact⟨fun e j d=>by rw[k1];rw[k4] at d;exact h (k2▸e) (k3▸j) d,fun y b=>HV⟩;exact⟨h,fun y b=>HV⟩
theorem On {s:Int} {L:EW}:OT o (eR l s L):=fun y d b=>by
 grind[eR]
theorem aJh (q:n.kind=0\/n.kind=1\/n.kind=2\/n.kind=3) (hb:r.busy=false) (v:∀w,(j w).2=true->(j w).1=o):RT o (bP.eX r l m n j).1.1/\OT o (bP.eX r l m n j).2:=by
 have Qk:∀{u:bP},u.busy=r.busy->RT o u:=fun e h=>FB
 have d:∀{k c:Int},k≠8->OT o [mR k c l]:=fun q y f p=>by
  rw[aV.1 f] at p;exact absurd p q
 rw[bP.eX];split;exact⟨Qk rfl,d FC⟩;split;split;rename_i b;have b:=v _ b;unfold bP.get;split;rw[bP.Ky];split;exact⟨fun _ _ _=>b,On⟩;exact S9 b;have t:((r.iM n (j n.bA).1).jZ).bA=o:=by rw[bP.jZ];split<;>exact b
 rw[bP.Jv];split;exact⟨fun _ _ _=>t,On⟩;exact S9 t;grind;split;exact⟨Qk rfl,fun y f=>(by cases f)⟩;refine⟨fun _ _ g=>?_,On⟩;have g:n.kind≠0:=g;omega
end
variable {M M':bR} {V V':Nat->Ln} {n:aG}
def sL (m:Mon) (l:Nat):Int:=(m.jW ((l/2:Nat):Int)).owner
structure En (C:bQ) (M:bR):Prop where
 w1:∀i:Nat,(i:Int)<C.aB->(M.aU i).dP=true->∃a,aT.iI (M.aD i)=some a/\(0<=a.dF/\a.dF<C.aF*2)/\(M.aU i).aS=a.dF/2/2
 tc:∀i:Nat,(i:Int)<C.aB->Tg C (sL M.bH) (M.bT i)
 tg:∀x∈dL C M.cB,x.kind=8->x.bA=sL M.bH x.aI.toNat
 tr:∀l:Nat,l<C.aF->RT (sL M.bH l) (M.aK l).1
 bz:∀l:Nat,l<C.aF->Bsy (M.aK l).1
variable {s:aT}
theorem aEj {r:aT×Ev} (h:aT.mM s i=some r):aT.iI s=none:=by
 rw[aT.mM] at h;rw[aT.iI];cases hn:aT.kQ s with
 |none=>rfl
 |some x=>
  dsimp only at h ⊢;grind[Jb]
theorem Rb {a:Mc.Nk} (h:aT.xR s i=some a):aT.iI s=none:=by
 have⟨x,hn,h8,_⟩:=Zo h;simp_all[aT.iI,bA0,Jb]
variable {M1:bR}
theorem En.O5 (h:En C M) {out:IA} (j:(dL C M1.cB).Perm (out++dL C M.cB)) (k:∀x∈out,x.kind≠8) (f:M1.aD=M.aD) (e2:M1.aU=M.aU) (d:M1.bH=M.bH) (e:M1.aK=M.aK)
  (hc:∀i:Nat,(i:Int)<C.aB->Tg C (sL M.bH) (M1.bT i)):En C M1:=by
 constructor
 .rw[f,e2];exact h.w1
 .grind
 .intro x b g;rw[d];rcases cj.1 (j.mem_iff.1 b) with b|b
  .grind
  .exact h.tg x b g
 .rw[d,e];exact h.tr
 .rw[e];exact h.bz
theorem En.jB (h:En C M) (p:(i:Int)<C.aB->(M.aU i).dP=false) (f:M1.aD=bD M.aD i s) (e2:M1.aU=M.aU) (d:M1.bH=M.bH) (e:M1.aK=M.aK) (g:M1.cB=M.cB)
  (hc:∀j:Nat,(j:Int)<C.aB->Tg C (sL M.bH) (M1.bT j)):En C M1:=by
 constructor
 .intro j k b;rw[e2] at b ⊢;rw[f,Ab.bO FB];exact h.w1 j k b
 .grind
 .rw[d,g];exact h.tg
 .rw[d,e];exact h.tr
 .rw[e];exact h.bz
theorem En.ret (h:En C M) (g:(i:Int)<C.aB->(M.aU i).dP=false) (e:M1.aD=M.aD) (e2:M1.aU=M.aU) (b:M1.bH=M.bH) (d:M1.aK=M.aK) (f:M1.cB=M.cB)
  (hc:∀j:Nat,(j:Int)<C.aB->Tg C (sL M.bH) (M1.bT j)):En C (M1.bL i v c).1:=by
 unfold bR.bL
 dsimp only
 split
 .refine⟨by rw[e,e2];exact h.w1,FB,by rw[b,f];exact h.tg,by rw[b,d];exact h.tr,by rw[d];exact h.bz⟩
 .exact h.jB (s:=(aT.bL (M1.aD i) i v c).1) g (by rw[<-e]) e2 b d f hc
variable {r:Option Mc.mS}
theorem aC3 {m:Mon} (d:g<m.eQ.length):sL ((m.oO g ⟨(m.jW g).owner,b⟩).dO g r)=sL m:=by
 funext l;show((m.oO g _).jW _).owner=_;grind[H7,sL]
theorem En.call (v:dD C N M) (h:En C M) {a:Mc.Nk} (w:aT.xR (M.aD i) i=some a):En C (M.call C i a).1:=by
 have j:(i:Int)<C.aB->(M.aU i).dP=false:=fun u=>by
  cases hw:(M.aU i).dP with
  |false=>rfl
  |true=>
   have⟨b,hb,_⟩:=h.w1 i u hw;grind[Rb]
 unfold bR.call;dsimp only;split;exact h.ret j rfl rfl rfl rfl rfl h.tc;rename_i d;split;exact h;rename_i q;have g:sL (M.bH.call C.aB a).1=sL M.bH:=by
  have d:=aW.1 d;rw[Mon.call] at d ⊢;split at d;cases d;split at d;cases d;split at d;cases d;split at d;cases d;dsimp only at d;split at d;grind;rename_i a1 k a3 a4 a5;rw[bA0 a1,bA0 k,bA0 a3,bA0 a4];dsimp only;rw[bA0 a5];have p:=aW.1 k;rw[Mon.kG] at p;have e:(M.bH.jW a.aS).owner=(M.bH.jW ((a.aS.toNat:Nat):Int)).owner:=by rw[CM p.1]
  rw[e];exact aC3 FA
 constructor;exact h.w1;rw[g];exact h.tc;intro x f t;rw[g];rcases cj.1 (((gG<|aW.1 q).1).mem_iff.1 f) with f|f;grind[C7];exact h.tg x f t;rw[g];exact h.tr;exact h.bz
theorem u6 {o:Nat->Int} {X:Nat->jR} {s:jR} (h:∀j:Nat,(j:Int)<C.aB->Tg C o (X j)) (d:(i:Int)<C.aB->Tg C o s):∀j:Nat,(j:Int)<C.aB->Tg C o (bD X i s j):=fun j b=>by
 grind[cQ,Ab.bO]
theorem Ha (h:RY C M V) (b:(i:Int)<C.aB) (d:jD (M.aU i).bN (M.aU i).aS=some o):(M.aU i).dP=false:=by
 cases hw:(M.aU i).dP with
 |false=>rfl
 |true=>
  exact absurd (eV.2 ⟨_,Gi d,rfl⟩)<|(h.gE.nd i b).2 hw
theorem En.fF (E:dD C N M) (J:RY C M V) (h:En C M) {a:vR} (t:(i:Int)<C.aB) (G:aT.iI (M.aD i)=some a):En C (M.fF C i a).1:=by
 have g:=E.Pa i t;have w1:(M.aU i).dP=true->(0<=a.dF/\a.dF<C.aF*2)/\(M.aU i).aS=a.dF/2/2:=fun D=>by
  have⟨b,B,f,w⟩:=h.w1 i t D;grind
 rw[bR.fF];by_cases k:0<=a.dF/\a.dF<C.aF*2;rotate_left;rw[bA1 k];refine h.ret (fun _=>?_) rfl rfl rfl rfl rfl h.tc;grind;rw[bA0 fun e=>e k];dsimp only;by_cases q:((M.aU i).uB C (M.aD i).bA<|a.dF/2/2).2≠0;grind;rw[bA0 q];have q:=aW.1 q;rw[jL.uB] at q ⊢;split at q;rotate_left;cases q;rename_i z;rw[bA1 z];cases hkn:jD (M.aU i).bN (a.dF/2/2) with
 |none=>
  rw[bA1 rfl];unfold bR.Cm;dsimp only;by_cases f:((M.aU i).dK C<|a.dF/2/2).2.2≠0;grind;rw[bA0 f];have f:=aW.1 f;split;exact h;rename_i w;have B:((M.aU i).dK C<|a.dF/2/2).1=(M.aU i).Bz (a.dF/2/2):=by
   rw[jL.dK] at f ⊢;split at f;cases f;split at f;cases f;split at f;cases f;grind
  constructor;intro j H p;dsimp only at p ⊢;by_cases e:j=i;subst e;rw[cQ,B];exact⟨a,G,k,rfl⟩;rw[Ab.bO e] at p ⊢;exact h.w1 j H p;exact h.tc;intro x d y;rcases cj.1 (((gG<|aW.1 w).1).mem_iff.1 d) with d|d;rw[aV.1 d] at y;cases y;exact h.tg x d y;exact h.tr;exact h.bz
 |some o=>
  have v:(i:Int)<C.aB->(M.aU i).dP=false:=fun _=>by
   cases D:(M.aU i).dP with
   |false=>rfl
   |true=>
    grind[Ha]
  by_cases u:yL (M.aD i).bA o=true;rotate_left;simp only[bA0 u];exact h.ret v rfl rfl rfl rfl rfl h.tc;simp only[bA1 u];rw[bA0 FC,bA0 FC];split;unfold bR.fV;dsimp only;split;exact h;split;exact h;have I:∀x∈(Ct.fV C (i:Int) (M.bT i) (a.dF/2) (M.aD i).bA a.iS).2.1,x.kind≠8:=by
   intro x d;rw[Ct.fV] at d;split at d;cases d;split at d;cases d;split at d;cases d;split at d;cases d;rw[zZ] at d;split at d;grind[tX];split at d;cases d;split at d;cases d;grind[tX]
  exact h.O5 (gG FA).1 I rfl rfl rfl rfl<|u6 h.tc fun _=>(h.tc i t).fV g;unfold bR.jY;refine h.ret v rfl rfl rfl rfl rfl<|u6 h.tc fun _=>?_;have f:Tg C (sL M.bH) (if a.Fz=true then pH C (M.bT i) (a.dF/2) (a.dF % 2) (M.bN i<|a.dF/2/2) else M.bT i):=by
   split;exact(h.tc i t).Fz g;exact h.tc i t
  have w:iJ C (if a.Fz=true then pH C (M.bT i) (a.dF/2) (a.dF % 2) (M.bN i<|a.dF/2/2) else M.bT i):=by
   split;exact Iq g;exact g
  split;exact f.iS w;exact f
theorem En.step (j:dD C N M) (p:RY C M V) (h:En C M):En C (M.step C a).1:=by
 rw[bR.step];by_cases f:0<=a/\a<C.aB;rotate_left;grind;rw[bA0 fun e=>e f];dsimp only;obtain⟨i,rfl⟩:=aL f.1;rw[aM];split;exact h;split;exact h;split;refine h.jB (fun g=>?_) rfl rfl rfl rfl rfl h.tc;cases hw:(M.aU i).dP with
 |false=>rfl
 |true=>
  have⟨b,hb,_⟩:=h.w1 i g hw;grind[aEj]
 split;rename_i k d;exact h.call j d;split;rename_i k d;exact h.fF j p f.2 d;exact h
end Go.Mc
namespace Go.Pc
open Go.Hm Go.Ct
variable {C:bQ} {r:bP} {n:aG} {m:Ln} {aI:Int}
theorem aFt {H:nD} {x:aG} (b:x∈(eW C H n).2.1):x.kind=8:=by
 rw[eW] at b;split at b;cases b;split at b;rw[iN.take] at b;split at b;grind;split at b;split at b;cases b;exact(Oo (r:=(H n.aI.toNat).1) (m:=(H n.aI.toNat).2) x b).1;cases b;cases b
theorem aP3 {core:Int} {s:jR}:∀x∈(fP C core s n).2.1,x.kind=4\/x.kind=5:=by
 intro x b;have e:∀y,(iQ core n y).kind=5:=fun y=>by grind[iQ]
 grind[fP,vJ,Bh,rS,lI]
end Go.Pc
namespace Go.Mc
open Go.Hm Go.At Go.Is Go.Ct Go.Nt Go.Pc
variable {C:bQ} {M M':bR} {V V':Nat->Ln} {L:IA} {d:Do}
section
variable {n:aG}
theorem jg {c:jL} {w:Int} (h:(c.eU C a w).1.dP=true):c.dP=true/\(c.eU C a w).1.aS=c.aS:=by
 rw[jL.eU] at h ⊢;split;grind;rename_i e;rw[bA0 e] at h;refine⟨HB,?_⟩;split;rfl;rename_i e2;rw[bA0 e2] at h;split;rfl;rename_i b;rw[bA0 b] at h;dsimp only at h ⊢;split;rfl;rename_i d;rw[bA0 d] at h;split;rfl;rename_i f;rw[bA0 f] at h;split;rfl;rename_i g;rw[bA0 g] at h;cases h
theorem xB {c:jL} {g:Int}:(c.drop C g).1.dP=c.dP/\(c.drop C g).1.aS=c.aS:=by
 grind[jL.drop]
def aHv {m:Mon} {g core:Int}:sL (m.eF aB g core).1=sL m:=by
 rw[Mon.eF];split;rfl;split;rfl;split;rfl;split<;>rfl
theorem Yc {H:nD}:∃w,((jS C H l).1 k).1={(H k).1 with aH:=w}:=by
 rw[jS];split;dsimp only;by_cases e:k=l.toNat;subst e;rw[cQ];exact⟨_,rfl⟩;rw[Ab.bO e];grind;grind
theorem qm {H:nD} {g:Int}:∃w,(oJ C H g k).1={(H k).1 with aH:=w}:=by
 rw[oJ];have⟨w1,e1⟩:=Yc (C:=C) (H:=(jS C H<|g*2).1) (l:=g*2+1) (k:=k);have⟨w2,e2⟩:=Yc (C:=C) (H:=H) (l:=g*2) (k:=k);grind
theorem En.cU (hC:C.Ok) (T:dD C N M) (X:(dL C M.cB).Perm (n::L)) (W:Nt.gE C n=0) (P:RY C M V) (h:En C M) (b:(M.cU C n).2.2=0):
  ∀F:eN,(dL C F).Perm ((M.cU C n).2.1++L)->En C ((M.cU C n).1.bM F):=by
 intro F hF
 have p:=P.rX.cH X
 have⟨hik,hco⟩:=fI W
 have⟨i,hi⟩:=aL hco.1
 have u:n.core.toNat=i:=FA
 have v:(i:Int)<C.aB:=FA
 have U:=hC.1
 have hL:∀x∈L,x.kind=8->x.bA=sL M.bH x.aI.toNat:=fun x g=>h.tg x FB
 have q:∀{out:IA} {m:Mon},sL m=sL M.bH->(dL C F).Perm (out++L)->(∀x∈out,x.kind=8->x.bA=sL M.bH x.aI.toNat)->∀x∈dL C F,x.kind=8->x.bA=sL m x.aI.toNat:=fun em Y D x g f=>by
  rw[em];grind
 rw[bR.cU] at b hF ⊢
 by_cases Q:n.kind=1\/n.kind=2\/n.kind=3\/n.kind=4\/n.kind=5
 .rw[bA1 Q] at b hF ⊢;have B:=p.nb n FB GG;have⟨k,hk⟩:=aL B.2.1;have z:k<C.aF:=FA
  have e:eW C M.aK n=(bD M.aK k (iN.take (M.aK k) n.aI n).1,(iN.take (M.aK k) n.aI n).2):=by
   rw[eW];rw[bA0<|by grind[Hm.cU],bA1 ⟨B.1,FV⟩,show n.aI.toNat=k by omega]
  have⟨H,out,hh,_,D,_⟩:=p.aL1 hC FA
  rw[e] at hF hh ⊢
  have I:=aNw (n:=n) (m:=(M.aK k).2) (l:=n.aI) (h.tr k z) ((P.rX.aI k z).jA) FA
  constructor
  .exact h.w1
  .exact h.tc
  .refine q rfl hF fun x g f=>?_;have J:=I.2 x g f;grind
  .intro l t;dsimp only;by_cases e2:l=k
   .grind[cQ]
   .rw[Ab.bO e2];exact h.tr l t
  .intro l t;dsimp only;by_cases e2:l=k
   .subst e2;rw[cQ];exact(h.bz l t).take
   .rw[Ab.bO e2];exact h.bz l t
 rw[bA0 Q] at b hF ⊢
 by_cases R:n.kind=8\/n.kind=9\/n.kind=10\/n.kind=11
 .rw[bA1 R] at b hF ⊢;rw[u] at b hF ⊢;refine⟨h.w1,?_,?_,h.tr,h.bz⟩
  .exact u6 h.tc fun _=>(h.tc i v).take (T.Pa i v) (p.nb n FB GG).2 (fun f=>h.tg n FB f) b
  grind[aP3]
 rw[bA0 R] at b hF ⊢
 by_cases S:n.kind=6
 .rw[bA1 S] at b hF ⊢;exact⟨h.w1,h.tc,q rfl hF fun x g f=>(by rw[aV.1 g] at f;cases f),h.tr,h.bz⟩
 rw[bA0 S] at b hF ⊢
 by_cases E:n.kind=12
 .rw[bA1 E] at b hF ⊢;dsimp only at b hF ⊢;rw[u] at hF ⊢;refine⟨fun j y d=>?_,h.tc,q rfl hF fun x g f=>?_,h.tr,h.bz⟩
  .dsimp only at d ⊢;by_cases e:j=i
   .subst e;rw[cQ] at d ⊢;have⟨h1,J⟩:=jg d;rw[J];exact h.w1 j y h1
   .rw[Ab.bO e] at d ⊢;exact h.w1 j y d
  .split at g
   .cases g
   .rw[aV.1 g] at f;cases f
 rw[bA0 E] at b hF ⊢
 by_cases G:n.kind=13
 .rw[bA1 G] at b hF ⊢;rw[u];refine⟨fun j y d=>?_,h.tc,q rfl hF fun x g f=>(by rw[aV.1 g] at f;cases f),h.tr,h.bz⟩;dsimp only at d ⊢;by_cases e:j=i
  .subst e;rw[cQ] at d ⊢;rw[xB.2];rw[xB.1] at d;exact h.w1 j y d
  .rw[Ab.bO e] at d ⊢;exact h.w1 j y d
 rw[bA0 G] at b hF ⊢
 by_cases Z:n.kind=7
 rotate_left
 .grind
 rw[bA1 Z] at b hF ⊢
 dsimp only at b hF ⊢
 rw[gk] at hF
 have D:sL (M.bH.eF C.aB n.no n.core).1=sL M.bH:=aHv
 have hg:∀{F':eN} {H:nD},(dL C F').Perm L->(∀l,∃w,(H l).1={(M.aK l).1 with aH:=w})->En C {M with bH:=(M.bH.eF C.aB n.no n.core).1,aK:=H,cB:=F'}:=by
  intro F' H Y O;refine⟨h.w1,?_,?_,?_,?_⟩;rw[D];exact h.tc;intro x g f;rw[D];grind;intro l t;rw[D];have⟨w,d⟩:=O l;rw[d];exact h.tr l t;intro l t;have⟨w,d⟩:=O l;rw[d];exact h.bz l t
 split
 .simp_all[qm]
 grind
def En.Hg (hC:C.Ok) (d:dD C N M) (g:RY C M V) (h:En C M) {b:Int}:En C (M.cZ C a b c).1:=by
 unfold bR.cZ;dsimp only;split;exact h;rename_i f;have e:=oW<|aW.1 f;split;exact h;split;exact h;exact h.cU hC d e (rU d.cB<|e.mem_iff.2 c9).gE g FA _<|(gG FA).1
theorem aBf {l:Nat} (b:l<C.aF) {w:Int} (h:(M.gC C (l:Int) w).2=true):(M.gC C (l:Int) w).1=sL M.bH l:=by
 rw[bR.gC] at h ⊢;simp_all[bA1,bQ.kG,sL]
theorem En.D5 (B:RY C M V) (h:En C M):En C (M.dK C a).1:=by
 unfold bR.dK;by_cases g:C.kG a;rotate_left;simp_all[bA1,eO];obtain⟨k,rfl⟩:=aL g.1;have d:k<C.aF:=by have:=g.2;omega
 have e:eO C M.aK (k:Int) (M.gC C (k:Int))=(bD M.aK k (iN.dK (M.aK k) (k:Int)<|M.gC C (k:Int)).1,(iN.dK (M.aK k) (k:Int)<|M.gC C (k:Int)).2):=by
  rw[eO];rw[bA1 g];rfl
 have⟨H',out,e0,he,_,ho,_⟩:=B.rX.D5 (l:=(k:Int)) (j:=M.gC C (k:Int));rw[e] at he ⊢;dsimp only;have p:(iN.dK _ _ _).2.1=out:=l6 (fun x=>x.2.1) he;have z:=B.rX.aI k d;have D:RT (sL M.bH k) (iN.dK (M.aK k) (k:Int)<|M.gC C (k:Int)).1.1/\OT (sL M.bH k) (iN.dK (M.aK k) (k:Int)<|M.gC C (k:Int)).2.1/\Bsy (iN.dK (M.aK k) (k:Int)<|M.gC C (k:Int)).1.1:=by
  rw[iN.dK];by_cases b:(M.aK k).1.busy=true;rw[bA1 b];exact⟨h.tr k d,(fun y u=>(by cases u)),h.bz k d⟩;rw[bA0 b];have b:(M.aK k).1.busy=false:=GH
  cases hw:(M.aK k).1.aH with
  |nil=>exact⟨h.tr k d,(fun y u=>(by cases u)),h.bz k d⟩
  |cons n w=>
   dsimp only;have t:=z.jA.aH n FB;have q:=aJh (l:=(k:Int)) (m:=(M.aK k).2) (r:=(M.aK k).1.next w) (j:=M.gC C _) t.2.2 b fun x f=>aBf d f;exact⟨q.1,q.2,Bsy.eX b z.jA.owner⟩
 split;exact h;split;exact h;rename_i q;have E:=(gG<|aW.1 q).1;refine⟨h.w1,h.tc,fun x f v=>?_,fun l g=>?_,fun l g=>?_⟩;rcases cj.1 (E.mem_iff.1 f) with f|f;rw[D.2.1 x f v,(ho x<|p▸f).1,aM];exact h.tg x f v;dsimp only;by_cases e2:l=k;grind[cQ];rw[Ab.bO e2];exact h.tr l g;dsimp only;by_cases e2:l=k;grind[cQ];rw[Ab.bO e2];exact h.bz l g
theorem Lz (h:RY C M V) (hC:C.Ok) (k:dD C N M) (p:Dc M) (b:(M.gI C a).2≠0):(M.gI C a).1=M:=by
 rw[bR.gI] at b ⊢;by_cases d:¬(0<=a/\a<C.aJ);grind;rw[bA0 d] at b ⊢;by_cases j:M.gX C a=false;grind;rw[bA0 j] at b ⊢;dsimp only at b ⊢;cases ho:(M.bH.over a).2.1 with
 |none=>rfl
 |some r=>
  rw[ho] at b;exfalso;have q:=aW.1 d;obtain⟨g,rfl⟩:=aL (aW.1 d).1;have f:M.bH.run g=M.bH.eI g:=by rw[Mon.run];rw[aac,aM]
  have e:M.bH.eI g=some r:=by
   rw[Mon.over] at ho;grind
  have t:=h.uB g r e;grind[zb,Dw,bR.bL]
theorem En.Ga (hC:C.Ok) (y:dD C N M) (U:Dc M) (p:RY C M V) (h:En C M):En C (M.gI C a).1:=by
 by_cases P:(M.gI C a).2=0;rotate_left;grind[Lz];obtain⟨g,r,rfl,z,G,X,J,O⟩:=Rf p P;rw[O];have E:=y.bH.len;have S:=(y.bH.run g r G).2.1;have W:=oN z;have Ve:∀l:Nat,l/2≠g->sL ((M.bH.oO r.aS.toNat ⟨r.kC,false⟩).dO g none) l=sL M.bH l:=fun l R=>by
  show((M.bH.oO r.aS.toNat ⟨r.kC,false⟩).jW ((l/2:Nat):Int)).owner=_;rw[H7 FA FA,aaa];rfl
 have f:∀l:Nat,l/2=g->l<C.aF/\Pc.vN (M.aK l).1:=FB;have t:((r.core.toNat:Nat):Int)<C.aB->(M.aU r.core.toNat).dP=false:=fun v=>by
  cases hw:(M.aU r.core.toNat).dP with
  |false=>rfl
  |true=>
   have⟨b,q,_⟩:=h.w1 _ v hw;rw[Rb (p.uB g r G).1] at q;cases q
 have u:∀{H':nD},(∀l,(H' l).1=(M.aK l).1)->En C {M with bH:=(M.bH.oO r.aS.toNat ⟨r.kC,false⟩).dO g none,aK:=H'}:=by
  intro H' D;refine⟨h.w1,fun i v l d k=>?_,fun x B w=>?_,fun l d=>?_,fun l d=>by rw[D];exact h.bz l d⟩;by_cases e:l/2=g;have⟨_,hc⟩:=f l e;have⟨j,_⟩:=(p.rX.aI l d).aKz hc;have I:=hC.1;have H:=j i FA;have T:=uS (y.Pa i v).aY k;unfold HH F5 at H;have w:(rY C M.bT l i).st=(bJ C.aY.toNat (M.bT i).S l).1.st:=by
   show(dT C.aY.toNat _ l).st=_;rw[Jc,bA1 k]
  grind;rw[Ve l e];exact h.tc i v l d k;have Q:=p.rX.nb x B GG;by_cases e:x.aI.toNat/2=g;exfalso;have⟨d,hc⟩:=f _ e;have⟨_,h2⟩:=(p.rX.aI _ d).aKz hc;exact(h2 x<|zH.2 ⟨B,FA,.inr FA⟩).1 w;rw[Ve _ e];exact h.tg x B w;rw[D];by_cases e:l/2=g;intro q;rw[(f l e).2.busy] at q;cases q;rw[Ve l e];exact h.tr l d
 split;have j:=u (H':=nS M.aK r.aS) fun l=>by grind[nS]
 exact j.ret t rfl rfl rfl rfl rfl j.tc;have j:=u fun l=>rfl;exact j.ret t rfl rfl rfl rfl rfl j.tc
def En.mK (hC:C.Ok) (e:dD C N M) (f:Dc M) (b:RY C M V) (h:En C M):En C (M.mK C d).1:=by
 rw[bR.mK];split;exact h.step e b;split;exact h.Hg hC e b;split;exact h.D5 b;split;exact h.Ga hC e f b;exact h
theorem En.kD {c:MC} (hc:c.C=C):En C (MC.kD c) where
 w1:=fun _ _ f=>by cases f
 tc:=fun _ _ l _ e=>absurd e jh
 tg:=fun x g=>by
  obtain⟨_,_,_,_,⟨⟩⟩:=uP g
 tr:=fun l d b=>by
  have:(sM c.C.aF l).1.busy=true:=b;rw[sM] at this;split at this<;>cases this
 bz:=fun l d b=>by
  have:(sM c.C.aF l).1.busy=true:=b;rw[sM] at this;split at this<;>cases this
end
variable {L':IA}
section
def fH (f:Nat->Nat):Nat->Nat
 |0=>0
 |n+1=>fH f n+f n
theorem gY {f g:Nat->Nat}:∀{n:Nat},(∀i,i<n->f i<=g i)->fH f n<=fH g n
 |0,_=>b0 _
 |n+1,h=>ER (gY FB) FB
theorem nM {f g:Nat->Nat} (h:∀i,i<n->f i=g i):fH f n=fH g n:=
 Nat.le_antisymm (gY FB) (gY FB)
theorem pX {f g:Nat->Nat} {k:Nat}:∀{n:Nat},k<n->(∀i,i<n->i≠k->f i=g i)->fH f n+g k=fH g n+f k
 |0,h,_=>FA
 |n+1,h,b=>by
  show fH f n+f n+g k=fH g n+g n+f k;by_cases e:k=n;grind[nM];have:=pX (n:=n) FA fun i d=>b i FA;grind
theorem rA {f g:Nat->Nat} {k:Nat}:∀{n:Nat},k<n->(∀i,i<n->i≠k->f i<=g i)->fH f n+g k<=fH g n+f k
 |0,h,_=>FA
 |n+1,h,b=>by
  show fH f n+f n+g k<=fH g n+g n+f k;by_cases e:k=n;subst e;have:=gY (n:=k) fun i d=>b i FA FA;omega;have:=rA (n:=n) FA fun i d=>b i FA;grind
theorem aAd {f:Nat->Nat} {k:Nat}:∀{n:Nat},k<n->f k<=fH f n
 |0,h=>FA
 |n+1,h=>by
  show f k<=fH f n+f n;by_cases e:k=n;grind;have:=aAd (f:=f) (k:=k) (n:=n) FA;omega
def qX (C:bQ) (s:aT):Option vR:=match aT.iI s with
 |some a=>if 0<=a.dF/\a.dF<C.aF*2 then some a else none
 |none=>none
def fB (m:Mon) (g:Int):Bool:=(m.jW g).kM
def vP (k:jL) (g:Int):Bool:=(jD k.bN g).isSome
abbrev vR.aI (a:vR):Int:=a.dF/2
abbrev vR.aS (a:vR):Int:=a.dF/2/2
def yX (C:bQ) (s:aT) (k:jL) (m:Mon):Bool:=match qX C s with
 |some a=>fB m a.aS&&vP k a.aS
 |none=>false
abbrev tP (C:bQ) (M:bR) (c:Nat):Bool:=yX C (M.aD c) (M.aU c) M.bH
def yC (C:bQ) (k:jL) (n:aG):Int×mP×Bool×Int:=lT C.aJ k.aS n.no n.d0
def pJ (C:bQ) (k:jL) (n:aG):Bool:=decide (n.kind=12)&& !k.kJ&&(yC C k n).2.2.1&& !(yC C k n).2.1.kM
def bS (C:bQ) (M:bR) (n:aG):Bool:=
 if n.kind=6\/n.kind=12 then fB M.bH (M.aU n.core.toNat).aS&& !pJ C (M.aU n.core.toNat) n
 else if n.kind=1\/n.kind=2\/n.kind=9 then fB M.bH (n.aI/2)&&tP C M n.core.toNat
 else false
def Bi (C:bQ) (k:jL) (n:aG):Nat:=
 34+(if k.at'=k.aS/4 then 2 else 0)+(if n.kind=6 then 2+(if k.kJ then 4 else 0) else 1+(if k.kJ||((yC C k n).2.2.1&&(yC C k n).2.1.kM) then 4 else 0))
def Qj (k:Int):Nat:=if k=8 then 14 else if k=11\/k=13 then 2 else if k=1\/k=2 then 32 else if k=3 then 10 else if k=4\/k=5\/k=7\/k=9\/k=10 then 1 else 0
def nW (C:bQ) (M:bR) (n:aG):Nat:=if bS C M n then 0 else if n.kind=6\/n.kind=12 then Bi C (M.aU n.core.toNat) n else Qj n.kind
def nT (C:bQ) (M:bR) (L:IA):Nat:=(L.map<|nW C M).sum
def jM (C:bQ) (M:bR) (n:aG):Bool:= !bS C M n
def e2 (C:bQ) (M:bR):IA->Nat
 |[]=>0
 |n::l=>if n.kind=12 then l.countP (jM C M) else e2 C M l
def Bu (C:bQ) (M:bR) (n:aG):Nat:=if bS C M n then 0 else if n.kind=1\/n.kind=2 then 26 else if n.kind=3 then 4 else 10
def gA (C:bQ) (M:bR):IA->Nat
 |[]=>0
 |n::l=>Bu C M n+gA C M l+l.countP (jM C M)
def nO (r:bP):Nat:=if r.busy=true/\r.cG=false then(if r.aX.kind=0 then 1 else 17) else 0
def mL (C:bQ) (M:bR) (r:bP):Nat:=gA C M r.aH+nO r
def fi (o:Int) (c:Nat) (l:Int) (n:aG):Bool:=decide<|n.core=(c:Int)/\n.aI=l/\(n.kind=9\/(n.kind=1\/n.kind=2)/\yL n.bA o=false)
def tU (C:bQ) (M:bR) (c:Nat) (a:vR):Bool:=
 (M.bT c).pO&&decide ((M.bT c).al=a.aI)&&(!a.iS||(M.bT c).aw)&&vP (M.aU c) a.aS&&yL (M.aD c).bA (M.bH.jW a.aS).owner&&
 !((dL C M.cB).any<|fi (M.bH.jW a.aS).owner c a.aI)&& !((M.aK a.aI.toNat).1.aH.any<|fi (M.bH.jW a.aS).owner c a.aI)
def mY (C:bQ) (s:jR) (l:Int):Nat:=if(kU C.aY.toNat C.ways.toNat s.S l).isSome then 12 else 0
def hJ (C:bQ) (M:bR) (c:Nat):Nat:=match qX C (M.aD c) with
 |some a=>mY C (M.bT c) a.aI+(if fB M.bH a.aS then(if vP (M.aU c) a.aS then 34 else 0)
   else(if vP (M.aU c) a.aS then 34 else if(M.aU c).dP then 0 else 40)+(if tU C M c a then 0 else 34))
 |none=>if(aT.xR (M.aD c) c).isSome&& !M.bH.iC c then 40 else 0
def Cb (m:Mon) (g:Nat):Nat:=match m.eI g with
 |some r=>if r.phase=1 then 30 else 0
 |none=>0
def Mi (C:bQ) (M:bR):Nat:=fH (hJ C M) C.aB.toNat
def P9 (C:bQ) (M:bR):Nat:=fH (fun c=>e2 C M<|M.cB c 2) C.aB.toNat
def Qc (C:bQ) (M:bR):Nat:=fH (fun l=>mL C M (M.aK l).1) C.aF
def au (C:bQ) (M:bR):Nat:=fH (Cb M.bH) C.aJ.toNat
def ph (C:bQ) (M:bR):Nat:=Mi C M+nT C M (dL C M.cB)+P9 C M+Qc C M+au C M
variable {n:aG}
theorem sX:nT C M (L++L')=nT C M L+nT C M L':=by unfold nT;simp
theorem hQ:nT C M (n::L)=nW C M n+nT C M L:=by unfold nT;simp
def lX (h:L.Perm L'):nT C M L=nT C M L':=(h.map<|nW C M).sum_nat
theorem rD (b:M'.aD=M.aD) (e2:M'.aU=M.aU) (d:M'.bH=M.bH):bS C M'=bS C M:=by
 funext n;simp_all[bS,tP]
def o6 (b:M'.aD=M.aD) (e2:M'.aU=M.aU) (d:M'.bH=M.bH):nW C M'=nW C M:=by
 unfold nW;rw[rD b e2 d,e2]
def B3 (h:bS C M'=bS C M):jM C M'=jM C M:=by
 unfold jM;rw[h]
def R2 (h:bS C M'=bS C M):∀l,Mc.e2 C M' l=Mc.e2 C M l
 |[]=>rfl
 |n::l=>by
  unfold Mc.e2;rw[B3 h,R2 h l]
theorem sJ (h:bS C M'=bS C M):∀l,gA C M' l=gA C M l
 |[]=>rfl
 |n::l=>by
  unfold gA Bu;rw[B3 h,sJ h l,h]
theorem O3:∀{l:IA},gA C M (l++[n])=gA C M l+Bu C M n+(if jM C M n then l.length else 0)
 |[]=>by simp[gA]
 |m::l=>by
  rw[e7];unfold gA;rw[O3,u3];grind
end
section
variable {n:aG} {l:IA} {F F':eN}
theorem aHp (h:n.kind≠12):∀{l:IA},Mc.e2 C M (l++[n])<=Mc.e2 C M l+(if jM C M n then 1 else 0)
 |[]=>by
  simp_all[Mc.e2,bA0,m6]
 |m::l=>by
  rw[e7];unfold Mc.e2;split;grind;exact aHp h
theorem yx:∀{l:IA},(∀x∈l,x.kind≠12)->Mc.e2 C M l=0
 |[],_=>rfl
 |m::l,h=>by
  rw[Mc.e2,bA0 FB];exact yx FB
theorem aJr (h:∀x∈l,x.kind≠12):Mc.e2 C M (l++[n])=0:=by
 induction l with
 |nil=>
  grind[Mc.e2]
 |cons m l b=>
  grind[Mc.e2]
theorem aNu:Mc.e2 C M l<=Mc.e2 C M (n::l):=by
 conv=>rhs;unfold Mc.e2
 split;induction l with
 |nil=>exact b0 _
 |cons m l b=>
  grind[Mc.e2]
 grind
def xY (C:bQ) (M:bR) (F:eN):Nat:=fH (fun c=>Mc.e2 C M<|F c 2) C.aB.toNat
theorem aRx (hc:0<=n.core/\n.core<C.aB) (h:n.kind≠12):xY C M (F.A4 n)<=xY C M F+(if cN n=2/\jM C M n=true then 1 else 0):=by
 unfold xY;have b:=pX (f:=fun c=>Mc.e2 C M<|(F.A4 n) c 2) (g:=fun c=>Mc.e2 C M<|F c 2) (k:=n.core.toNat) (n:=C.aB.toNat) FA fun i _ j=>by
  simp_all[eN.A4,eN.set]
 have d:Mc.e2 C M ((F.A4 n) n.core.toNat 2)<=Mc.e2 C M (F n.core.toNat 2)+(if cN n=2/\jM C M n=true then 1 else 0):=by
  unfold eN.A4 eN.set;by_cases e:cN n=2;simp_all[bA1,aHp];grind
 omega
theorem aMy:∀{l:IA} {F F':eN},(∀x∈l,Nt.gE C x=0)->(∀x∈l,x.kind≠12)->eN.xN C.eG F l=some F'->xY C M F'<=xY C M F+l.countP (fun x=>decide<|cN x=2/\jM C M x=true):=by
 intro l;induction l with
 |nil=>intro F F' _ _ h;cases h;grind
 |cons n l b=>
  grind[eN.xN,fI,List.mem_cons_self,List.mem_cons_of_mem,aRx]
theorem Io (h:(F.fY C l).2=0) (d:∀x∈l,x.kind≠12):xY C M (F.fY C l).1<=xY C M F+l.countP (fun x=>decide<|cN x=2/\jM C M x=true):=by
 rw[eN.fY] at h ⊢;by_cases b:aU C l≠0;grind;rw[bA0 b] at h ⊢;split at h;rename_i F' e;exact aMy (C4 GH) d e;cases h
theorem sP (h:(F.fY C [n]).2=0):(F.fY C [n]).1=F.A4 n/\((F n.core.toNat<|cN n).length:Int)<C.eG/\Nt.gE C n=0:=by
 rw[eN.fY] at h ⊢;by_cases b:aU C [n]≠0;grind;rw[bA0 b] at h ⊢;unfold eN.xN at h ⊢;by_cases d:((F n.core.toNat<|cN n).length:Int)<C.eG;rw[bA1 d] at h ⊢;exact⟨rfl,d,C4 GH n FF⟩;grind
theorem tO {c:Nat} {m:aG} {l:IA} (hc:(c:Int)<C.aB) (b:w<4) (h:F c w=m::l):F.take C (c:Int) (w:Int) 0=(F.set c w l,m,0):=by
 rw[eN.take,aaa];simp_all
theorem Lk {c:Nat} (hc:(c:Int)<C.aB) {l:IA} (h:F c w=n::l):xY C M (F.set c w l)<=xY C M F:=by
 refine gY fun i b=>?_;grind[eN.set,aNu]
end
variable {m:Ln} {r:bP} {x:Option Mc.mS}
section
variable {n:aG}
def db (n:aG):Bool:=decide<|n.kind=0
def qG (r:bP):Nat:=(if r.busy=true/\r.aX.kind=0 then 1 else 0)+r.aH.countP db
def ph2 (m:Mon) (g:Nat):Nat:=match m.eI g with
 |some r=>if r.phase=2 then 1 else 0
 |none=>0
structure Sw (C:bQ) (M:bR):Prop where
 sw:∀l:Nat,l<C.aF->qG (M.aK l).1<=ph2 M.bH (l/2)
theorem I4 (h:r.busy=false):qG r=r.aH.countP db:=by
 rw[qG];grind
theorem Ze:r.aH.countP db<=qG r:=by rw[qG];grind
theorem mg (h:r.aX.kind≠0):qG r=r.aH.countP db:=by
 rw[qG];grind
theorem Lt {d:Ln}:(r.dZ l d).1.aX=r.aX:=by
 grind[bP.dZ]
theorem aE0 (d:1<=n.kind/\n.kind<=5):qG (iN.take (r,m) l n).1.1<=qG r:=by
 rw[iN.take];split;split;grind;rw[I4 rfl];exact Ze (r:=r);split;split;grind;have⟨_,k2,_,k4⟩:=Eh (r:=r) (n:=n);have e:=Pc.mE (r:=r) (n:=n);unfold iN.nI bP.rest;split;split;rw[I4 rfl];show(r.dE n).aH.countP db<=_;grind[Ze];grind[mg,Lt,Pc.kB,Ze];grind[qG];show _+(r.aH++[n]).countP db<=_;have b:db n=false:=cM FA;rw[u3,m0,List.countP_nil,b];exact b0 _
theorem sy {w:IA} (hb:r.busy=false) (t:r.aH=n::w):qG (bP.eX (r.next w) l m n j).1.1<=qG r:=by
 have p:qG r=(if db n=true then 1 else 0)+w.countP db:=by
  rw[I4 hb,t,m0];omega
 have Qk:∀{b:bP},b.busy=false->b.aH=w->qG b<=qG r:=fun g e2=>by
  grind[I4]
 have e:∀{b:bP},b.aX.kind≠0->b.aH=w->qG b<=qG r:=fun g e2=>by
  grind[mg]
 rw[bP.eX];split;exact Qk hb rfl;split;have f:n.kind≠0:=FA
 split;have k:∀{b:bP} {d:Ln},b.aX=n->b.aH=w->qG (b.dZ l d).1<=qG r:=fun {b d} g e2=>by
  grind[Lt,Pc.kB]
 unfold bP.get;split;rw[bP.Ky];split;exact e f rfl;exact k rfl rfl;have q:(((r.next w).iM n (j n.bA).1).jZ).aX=n/\(((r.next w).iM n (j n.bA).1).jZ).aH=w:=by rw[bP.jZ];split<;>exact⟨rfl,rfl⟩
 rw[bP.Jv];split;exact e (by show(((r.next w).iM n _).jZ).aX.kind≠0;grind) q.2;grind;exact Qk hb rfl;split;exact Qk hb rfl;rw[p];show(if(true:Bool)=true/\n.kind=0 then 1 else 0)+w.countP db<=_;by_cases h:n.kind=0;rw[bA1 ⟨rfl,h⟩,bA1<|show db n=true from cL h];grind;grind
theorem y7 {k:Nat}:∀{l:IA},(∀x∈l,x.aI=(k:Int)/\(0<=x.core/\x.core<4)/\(x.kind=0\/x.kind=1\/x.kind=2\/x.kind=3))->
  l.length<=l.countP db+(fS 1 0 k l+fS 2 0 k l+fS 3 0 k l)+(fS 1 1 k l+fS 2 1 k l+fS 3 1 k l)+(fS 1 2 k l+fS 2 2 k l+fS 3 2 k l)+(fS 1 3 k l+fS 2 3 k l+fS 3 3 k l)
 |[],_=>FF
 |x::l,h=>by
  have e:=y7 fun y b=>h y<|ca _ b;have⟨h1,h2,h3⟩:=h x FB;simp only[dW,m0,hK,db,y0];have d:x.core=((0:Nat):Int)\/x.core=((1:Nat):Int)\/x.core=((2:Nat):Int)\/x.core=((3:Nat):Int):=FA
  grind
theorem Im {l:Nat} {c:CLs} {v:Ln} (h:Pc.gB l r m v c L) (d:qG r<=1):r.aH.length<=5:=by
 have e:=y7 h.jA.aH;have f:r.aH.countP db<=1:=by rw[qG] at d;omega
 have E8:∀i,i<4->fS 1 i l r.aH+fS 2 i l r.aH+fS 3 i l r.aH<=1:=fun i b=>by
  have t1:=h.t1 i b;have t2:=h.t2 i b;have ex:=h.ex i b;cases ha:(c i).qO<;>cases hg:(c i).gi<;>grind<;>omega
 grind
theorem iK:(M.bL i v c).1.aK=M.aK/\(M.bL i v c).1.bH=M.bH/\(M.bL i v c).1.aU=M.aU/\(M.bL i v c).1.bT=M.bT/\(M.bL i v c).1.cB=M.cB:=by
 grind[bR.bL]
theorem Pm {a:vR}:(M.fF C i a).1.aK=M.aK/\(M.fF C i a).1.bH=M.bH:=by
 rw[bR.fF];split;exact⟨iK.1,iK.2.1⟩;dsimp only;split;exact⟨rfl,rfl⟩;split;unfold bR.Cm;grind;split;exact⟨iK.1,iK.2.1⟩;split;unfold bR.fV;grind;unfold bR.jY;exact⟨iK.1,iK.2.1⟩
theorem Sw.qE (h:Sw C M) (b:M'.aK=M.aK) (e2:M'.bH=M.bH):Sw C M':=⟨by rw[b,e2];exact h.sw⟩
def L0 {k:Mon} {b:Nat}:ph2 (k.dO g x) b=if b=g then(match x with|some r=>if r.phase=2 then 1 else 0|none=>0) else ph2 k b:=by
 show(match bD k.eI g x b with|some r=>_|none=>_)=_;by_cases e:b=g;subst e;rw[cQ,bA1 rfl];rw[Ab.bO e,bA0 e];rfl
theorem Sw.call (f:dD C N M) (h:Sw C M) {a:Mc.Nk}:Sw C (M.call C i a).1:=by
 unfold bR.call;dsimp only;split;exact h.qE iK.1 iK.2.1;rename_i b;split;exact h;have b:=aW.1 b;refine⟨fun l j=>?_⟩;apply cO<|h.sw l j;rw[Mon.call] at b ⊢;split at b;cases b;split at b;cases b;split at b;cases b;split at b;cases b;dsimp only at b;split at b;grind;rename_i a1 d a3 a4 a5;rw[bA0 a1,bA0 d,bA0 a3,bA0 a4];rw[bA0 a5];have g:=aW.1 d;rw[Mon.kG] at g;have e:=aW.1 a3;rw[show a.aS=((a.aS.toNat:Nat):Int) by omega] at e;have k:=wu f e;rw[L0];split;rw[ph2];grind;exact b0 _
def Sw.step (b:dD C N M) (h:Sw C M):Sw C (M.step C a).1:=by
 rw[bR.step];split;exact h;dsimp only;split;exact h;split;exact h;split;exact h.qE rfl rfl;split;exact h.call b;split;exact h.qE Pm.1 Pm.2;exact h
theorem sb:qG (r.lF<|nU l)=qG r+1:=by
 unfold qG;show _+(r.aH++[nU l]).countP db=_;rw[u3];have:db (nU l)=true:=rfl;show(if r.busy=true/\r.aX.kind=0 then 1 else 0)+_=_;grind
theorem Sw.cU (hC:C.Ok) (J:dD C N M) (w:Nt.gE C n=0) (h:Sw C M) (b:(M.cU C n).2.2=0):Sw C (M.cU C n).1:=by
 have⟨hik,hco⟩:=fI w;rw[bR.cU] at b ⊢;by_cases x:n.kind=1\/n.kind=2\/n.kind=3\/n.kind=4\/n.kind=5;rw[bA1 x] at b ⊢;refine⟨fun l d=>?_⟩;rw[eW];split;exact h.sw l d;split;dsimp only;by_cases e:l=n.aI.toNat;subst e;rw[cQ];exact cO (aE0 FA)<|h.sw _ d;rw[Ab.bO e];exact h.sw l d;exact h.sw l d;rw[bA0 x] at b ⊢;by_cases y:n.kind=8\/n.kind=9\/n.kind=10\/n.kind=11;rw[bA1 y];exact h.qE rfl rfl;rw[bA0 y] at b ⊢;by_cases G:n.kind=6;grind;rw[bA0 G] at b ⊢;by_cases p:n.kind=12;rw[bA1 p];exact h.qE rfl rfl;rw[bA0 p] at b ⊢;by_cases q:n.kind=13;rw[bA1 q];exact h.qE rfl rfl;rw[bA0 q] at b ⊢;by_cases B:n.kind=7;rotate_left;grind;rw[bA1 B] at b ⊢;dsimp only at b ⊢;have j:=Ks w<|.inl B;have⟨g,hg⟩:=aL j.1;have t:(g:Int)<C.aJ:=FA
 have E:=oN t;have k:M.bH.run n.no=M.bH.eI g:=by rw[Mon.run];rw[bA1 j.1,hg,aM]
 rw[Mon.eF] at b ⊢;split;grind;rename_i a1;rw[bA0 a1] at b;rw[k] at b ⊢;cases hr:M.bH.eI g with
 |none=>grind
 |some r=>
  dsimp only at b ⊢;split;grind;split;grind;have f:n.no.toNat=g:=FA
  have z:∀l:Nat,l/2=g->l<C.aF->qG (M.aK l).1=0:=fun l e d=>by
   have H:=h.sw l d;grind[ph2]
  split;rename_i u;refine⟨fun l d=>?_⟩;dsimp only;rw[f,L0];have v:(oJ C M.aK n.no l)=if l=g*2\/l=g*2+1 then iN.mf (M.aK l) l else M.aK l:=by
   have D:n.no*2=((g*2:Nat):Int):=FA
   have e2:n.no*2+1=((g*2+1:Nat):Int):=FA
   unfold oJ jS;rw[e2,D,bA1 FV,bA1 FV,aM,aM];dsimp only;by_cases e:l=g*2;simp_all[Ab.bO,Ab.dJ,bA1];by_cases e2:l=g*2+1;simp_all[Ab.dJ,bA1,Ab.bO];simp_all[Ab.bO,bA0]
  rw[v];by_cases e:l/2=g;rw[aac,bA1 e];show qG ((M.aK l).1.lF _)<=_;rw[sb,z l e d];have I:((r.dE n.core).gX).phase=2:=by
   show(if(r.dE n.core).none=true then(2:Int) else _)=2;rw[bA1 u]
  grind;rw[aaa,bA0 e];exact h.sw l d;refine⟨fun l d=>?_⟩;rw[f,L0];split;grind;exact h.sw l d
def Sw.Hg (hC:C.Ok) (f:dD C N M) (h:Sw C M) {b:Int}:Sw C (M.cZ C a b c).1:=by
 unfold bR.cZ;dsimp only;split;exact h;rename_i d;have d:=aW.1 d;have e:=rU f.cB<|(oW d).mem_iff.2 c9;split;exact h;split;exact h;exact(h.cU hC f e.gE FA).qE rfl rfl
theorem Sw.D5 (h:Sw C M):Sw C (M.dK C a).1:=by
 unfold bR.dK;dsimp only;split;exact h;split;exact h;refine⟨fun l b=>?_⟩;rw[eO];split;dsimp only;by_cases e:l=a.toNat;subst e;rw[cQ];refine cO ?_<|h.sw _ b;rw[iN.dK];by_cases d:(M.aK a.toNat).1.busy=true;grind;cases hw:(M.aK a.toNat).1.aH with
 |nil=>grind
 |cons n w=>grind[sy]
 rw[Ab.bO e];exact h.sw l b;exact h.sw l b
def Rr (h:¬Lr r):qG r=0:=by
 rw[qG,bA0 fun e=>h<|.inl e];rw[AB];refine AI.2 fun x d b=>h<|.inr ⟨x,d,cP b⟩
theorem Sw.Ga (hC:C.Ok) (w:dD C N M) (x:Dc M) (q:RY C M V) (h:Sw C M):Sw C (M.gI C a).1:=by
 by_cases b:(M.gI C a).2=0;rotate_left;grind[Lz];have u:M.gX C a=true:=by
  rw[bR.gI] at b;split at b;cases b;split at b;cases b;grind
 obtain⟨g,r,rfl,f,D,B,t,y⟩:=Rf q b;have k:=oN f;simp only[bR.gX,ep,y0,AN,BM] at u;have z:∀l:Nat,l/2=g->qG (M.aK l).1=0:=fun l e=>by
  have:l=g*2\/l=g*2+1:=FA
  rcases this with rfl|rfl;exact Rr<|zQ k.1 FB;exact Rr<|zQ k.2 FB
 have v:∀{d:nD},(∀l,(d l).1=(M.aK l).1)->Sw C {M with bH:=(M.bH.oO r.aS.toNat ⟨r.kC,false⟩).dO g none,aK:=d}:=by
  intro d p;refine⟨fun l j=>?_⟩;dsimp only;rw[p,L0];split;grind;exact h.sw l j
 grind[nS,qE,iK]
def Sw.mK (hC:C.Ok) (b:dD C N M) (f:Dc M) (e:RY C M V) (h:Sw C M):Sw C (M.mK C d).1:=by
 rw[bR.mK];split;exact h.step b;split;exact h.Hg hC b;split;exact h.D5;split;exact h.Ga hC b f e;exact h
theorem Sw.kD {c:MC}:Sw C (MC.kD c):=⟨fun l _=>by
 have:qG ((sM c.C.aF l).1)=0:=by
  rw[sM];split<;>rfl
 show qG ((sM c.C.aF l).1)<=_;grind⟩
structure Zs (C:bQ) (S:Nat->aT) (N:Nat) (M:bR):Prop where
 all:av C S N M
 ry:∃V,RY C M V
 en:En C M
 sw:Sw C M
def Zs.mK {S:Nat->aT} (hC:C.Ok) (h:Zs C S N M):Zs C S (N+2) (M.mK C d).1:=by
 have⟨V,hR⟩:=h.ry;exact⟨h.all.mK hC,hR.mK hC h.all.inv h.all.lF,h.en.mK hC h.all.inv h.all.lF hR,h.sw.mK hC h.all.inv h.all.lF hR⟩
theorem zF (h:bS C M n=false):Bu C M n=if n.kind=1\/n.kind=2 then 26 else if n.kind=3 then 4 else 10:=by rw[Bu];grind
theorem Y9 (h:bS C M n=true):Bu C M n=0:=by simp_all[Bu,bA1]
theorem F8 (h:bS C M n=false):nW C M n=if n.kind=6\/n.kind=12 then Bi C (M.aU n.core.toNat) n else Qj n.kind:=by rw[nW];grind
theorem P4 (h:bS C M n=true):nW C M n=0:=by simp_all[nW,bA1]
theorem O2 (h:n.kind≠6/\n.kind≠12/\n.kind≠1/\n.kind≠2/\n.kind≠9):bS C M n=false:=by
 grind[bS]
theorem M9 (h:n.kind≠6/\n.kind≠12/\n.kind≠1/\n.kind≠2/\n.kind≠9):nW C M n=Qj n.kind:=by
 simp_all[nW,O2,bA0]
theorem Ji (h:n.kind≠6/\n.kind≠12/\n.kind≠1/\n.kind≠2/\n.kind≠9):jM C M n=true:=by
 grind[jM,O2]
def yg {d:Ln}:nT C M (r.dZ l d).2=14/\(r.dZ l d).2.length=1:=by
 have b:∀x:aG,x.kind=8->nT C M [x]=14/\[x].length=1:=fun x e=>by
  refine⟨?_,rfl⟩;rw[hQ,M9 FA,e];rfl
 rw[bP.dZ];split;exact b _ rfl;split;exact b _ rfl;exact b _ rfl
theorem R1 {d:Ln}:nO (r.dZ l d).1=0:=by
 have:(r.dZ l d).1.cG=true:=by
  rw[bP.dZ];grind
 grind[nO]
theorem aFp (B:1<=n.kind/\n.kind<=5) (v:vX k r) (hc:0<=n.core/\n.core<4) (u:r.aH.length<=5) (f:(iN.take (r,m) (k:Int) n).2.2=0):
  mL C M (iN.take (r,m) (k:Int) n).1.1+nT C M (iN.take (r,m) (k:Int) n).2.1+(iN.take (r,m) (k:Int) n).2.1.length+(if jM C M n then 1 else 0)<=mL C M r+nW C M n:=by
 have b:n.kind=4\/n.kind=5->nW C M n=1/\jM C M n=true:=fun h=>by
  refine⟨?_,Ji FA⟩;rw[M9 FA];rcases h with h|h<;>rw[h]<;>rfl
 rw[iN.take] at f ⊢
 by_cases q:n.kind=4
 .rw[bA1 q] at f ⊢;split
  .grind
  .have⟨h1,h2⟩:=b<|.inl q;rw[h1,h2];show gA C M r.aH+nO r.kW+nT C M []+0+1<=gA C M r.aH+nO r+1;have:nO r.kW=0:=by rw[nO];rw[bA0 fun e=>by cases e.1]
   show _+0+0+0+1<=_
   omega
 rw[bA0 q] at f ⊢
 by_cases t:n.kind=5
 .rw[bA1 t] at f ⊢;split
  .grind
  .rename_i z;have⟨h1,h2⟩:=b<|.inr t;have⟨k1,k2,k3,k4'⟩:=Eh (r:=r) (n:=n);have D:=Pc.mE (r:=r) (n:=n);have j:r.busy=true/\r.cG=false:=by
    have w:¬r.kK=true:=fun w=>by
     grind[hM]
    have:=v.sD;grind
   have x:nO r=if r.aX.kind=0 then 1 else 17:=by rw[nO];rw[bA1 j]
   rw[h1,h2]
   show mL C M (iN.nI (r,m) k n).1.1+nT C M (iN.nI (r,m) k n).2+(iN.nI (r,m) k n).2.length+1<=gA C M r.aH+nO r+1
   unfold iN.nI bP.rest
   split
   .split
    .show gA C M (r.dE n).aH+nO (r.dE n).kW+0+0+1<=_;have:nO (r.dE n).kW=0:=by rw[nO];rw[bA0 fun e=>by cases e.1]
     grind
    .rename_i y;have⟨g1,g2⟩:=yg (C:=C) (M:=M) (r:=r.dE n) (l:=(k:Int)) (d:=(r.dE n).yU<|r.yT m n);rw[mL];simp_all[R1,Pc.kB,bA0]
   .show gA C M (r.dE n).aH+nO (r.dE n)+0+0+1<=_;grind[nO]
 .rw[bA0 t] at f ⊢;show gA C M (r.aH++[n])+nO r+0+0+(if jM C M n then 1 else 0)<=gA C M r.aH+nO r+nW C M n;rw[O3];by_cases g:jM C M n=true
  .have p:bS C M n=false:=by rw[jM] at g;simpa using g
   rw[zF p,F8 p,bA0<|show ¬(n.kind=6\/n.kind=12) by omega]
   grind[Qj]
  .have p:bS C M n=true:=by rw[jM] at g;simpa using g
   simp_all[Y9,P4,b0]
end
variable {n:aG} {c:Nat} {a:vR}
structure oC (C:bQ) (M:bR) (c:Nat) (a:vR):Prop where
 pO:(M.bT c).pO=true
 al:(M.bT c).al=a.aI
 aw:a.iS=true->(M.bT c).aw=true
 kn:vP (M.aU c) a.aS=true
 Ql:yL (M.aD c).bA (M.bH.jW a.aS).owner=true
 ln:∀x∈dL C M.cB,fi (M.bH.jW a.aS).owner c a.aI x=false
 wt:∀x∈(M.aK a.aI.toNat).1.aH,fi (M.bH.jW a.aS).owner c a.aI x=false
theorem nC:tU C M c a=true↔oC C M c a:=by
 simp only[tU,ep,y0,BZ,AN,CU];constructor;rintro ⟨⟨⟨⟨⟨⟨b,d⟩,g⟩,e⟩,f⟩,h⟩,j⟩;exact⟨b,d,FB,e,f,fun x k=>FB,fun x k=>FB⟩;rintro ⟨b,d,g,e,f,h,j⟩;grind
theorem xK (e:M'.aD c=M.aD c) (d:M'.aU c=M.aU c) (h:M'.bH=M.bH) (k:∀a,qX C (M.aD c)=some a->mY C (M'.bT c) a.aI<=mY C (M.bT c) a.aI)
  (f:∀a,qX C (M.aD c)=some a->fB M.bH a.aS=false->oC C M c a->oC C M' c a):hJ C M' c<=hJ C M c:=by
 unfold hJ
 rw[e,d,h]
 cases ha:qX C _ with
 |none=>grind
 |some a=>
  dsimp only
  by_cases g:fB M.bH a.aS=true
  .grind
  .by_cases b:tU C M c a=true
   .have j:=nC.2<|f a ha HO<|nC.1 b;grind
   grind
theorem Fc (h:n.kind≠9/\n.kind≠1/\n.kind≠2):fi o c l n=false:=cM FA
theorem aO7 (hC:C.Ok) (hI:dD C N M) (U:RY C M V) (hS:Sw C M) {l:IA} (hc:(c:Int)<C.aB) (hw:w<4) (W:M.cB c w=n::l) (hk:1<=n.kind/\n.kind<=5) (z:(M.cZ C (c:Int) (w:Int) 0).2=0):
  ph C (M.cZ C (c:Int) (w:Int) 0).1+(if jM C M n then 1 else 0)<=ph C M:=by
 have R:=tO hc hw W
 unfold bR.cZ at z ⊢
 rw[R] at z ⊢
 dsimp only at z ⊢
 rw[bA0 FC] at z ⊢
 have Q:(dL C M.cB).Perm (n::dL C (M.cB.set c w l)):=by
  have:=oW (by rw[R]);rw[R] at this;exact this
 have P:=rU hI.cB<|Q.mem_iff.2 c9
 by_cases t:(M.cU C n).2.2≠0
 .grind
 rw[bA0 t] at z ⊢
 by_cases q:((M.cB.set c w l).fY C (M.cU C n).2.1).2≠0
 .grind
 rw[bA0 q]
 have q:=aW.1 q
 have t:=aW.1 t
 have B:=U.rX.cH Q
 have v:=B.nb n c9 GG
 have⟨k,hkk⟩:=aL v.2.1
 have u:k<C.aF:=FA
 have γ:=(fI P.gE).2
 have β:=hC.1
 have e:eW C M.aK n=(bD M.aK k (iN.take (M.aK k) (k:Int) n).1,(iN.take (M.aK k) (k:Int) n).2):=by
  rw[eW];rw[bA0<|by rw[Hm.cU];omega,bA1 ⟨v.1,by exact v.2⟩,show n.aI.toNat=k by omega,hkk]
 have Z:M.cU C n=(M.mI<|bD M.aK k (iN.take (M.aK k) (k:Int) n).1,(iN.take (M.aK k) (k:Int) n).2.1,(iN.take (M.aK k) (k:Int) n).2.2):=by
  rw[bR.cU];rw[aac,e]
 rw[Z] at t q ⊢
 dsimp only at t q ⊢
 have D:=U.rX.aI k u
 have E:=Im D<|cO (hS.sw k u) HM
 have I:=aFp (C:=C) (M:=M) (m:=(M.aK k).2) hk D.jA FA E t
 have H:∀x∈(iN.take _ _ n).2.1,x.kind=8:=fun x b=>aFt (by rwa [e])
 generalize hG:iN.take _ _ n=G at*
 obtain⟨⟨h,p⟩,out,Y⟩:=G
 have J:iN.take ((M.aK k).1,(M.aK k).2) _ n=((h,p),out,Y):=hG
 dsimp only at I H t q ⊢
 have y:=(gG q).1
 have hE:xY C M ((M.cB.set c w l).fY C out).1<=xY C M M.cB+out.length:=by
  have h4:=Io (M:=M) q fun x b=>FB
  have h5:=Lk (M:=M) hc W;grind
 generalize hF:((M.cB.set c w l).fY C out).1=F' at y hE ⊢
 have d:bS C ((M.mI<|bD M.aK k (h,p)).bM F')=bS C M:=rD rfl rfl rfl
 have O:nW C ((M.mI<|bD M.aK k (h,p)).bM F')=nW C M:=o6 rfl rfl rfl
 have δ:∀L,nT C _ L=nT C M L:=fun L=>by unfold nT;rw[O]
 have hB:nT C M (dL C F')+nW C M n=nT C M (dL C M.cB)+nT C M out:=by
  rw[lX Q,hQ,lX y,sX];omega
 have hD:P9 C ((M.mI<|bD M.aK k (h,p)).bM F')<=P9 C M+out.length:=by
  refine cO (AF ?_) hE;exact nM fun i _=>R2 d _
 have α:Qc C ((M.mI<|bD M.aK k (h,p)).bM F')+mL C M (M.aK k).1=Qc C M+mL C M h:=by
  have:=pX (f:=fun i=>mL C ((M.mI _).bM F') (bD M.aK k (h,p) i).1) (g:=fun i=>mL C M _) u fun i _ hi=>by
   rw[Ab.bO hi];unfold mL;rw[sJ d]
  rw[cQ] at this;have X:mL C ((M.mI<|bD M.aK k (h,p)).bM F') h=mL C M h:=by unfold mL;rw[sJ d]
  rw[X] at this;exact this
 have hA:Mi C ((M.mI<|bD M.aK k (h,p)).bM F')<=Mi C M:=by
  refine gY fun i _=>xK rfl rfl rfl FB fun a _ _ j=>⟨j.pO,j.al,j.aw,j.kn,j.Ql,fun x b=>?_,fun x b=>?_⟩;rcases cj.1 (y.mem_iff.1 b) with b|b;grind[Fc];exact j.ln x FB;have b:x∈(bD M.aK k (h,p) a.aI.toNat).1.aH:=b;by_cases T:a.aI.toNat=k;rw[T,cQ] at b;have S:x∈(M.aK k).1.aH\/x=n:=by
   have h7:h.aH=(iN.take ((M.aK k).1,(M.aK k).2) (k:Int) n).1.1.aH:=by rw[J]
   dsimp only at b;rw[h7] at b;rw[iN.take] at b;split at b;split at b;grind;exact .inl b;split at b;split at b;grind;have h8:(iN.nI ((M.aK k).1,(M.aK k).2) (k:Int) n).1.1.aH=(M.aK k).1.aH:=by
    unfold iN.nI bP.rest;dsimp only;split;split;exact Pc.mE;grind[Pc.kB,Pc.mE];exact Pc.mE
   grind;have b:x∈(M.aK k).1.aH++[n]:=b;grind
  rcases S with b|b;exact j.wt x FB;rw[b];exact j.ln n FB;rw[Ab.bO T] at b;exact j.wt x b
 grind[au,bD,bM,ph]
variable {S:Nat->IC}
theorem aJk (b:0<=no):(bJ k S no).2=0↔(Go.Ct.get no<|S<|cT k no).isSome=true:=by
 grind[bJ]
variable {s s':jR}
theorem yd (e:0<=l) (f:(bJ C.aY.toNat s.S l).2=0->(bJ C.aY.toNat s'.S l).2=0\/(s'.S<|cT C.aY.toNat l).length<C.ways.toNat) (g:(s'.S<|cT C.aY.toNat l).length<=(s.S<|cT C.aY.toNat l).length):
  mY C s' l<=mY C s l:=by
 unfold mY
 by_cases b:(kU C.aY.toNat C.ways.toNat s'.S l).isSome=true
 rotate_left
 .grind
 have d:(kU C.aY.toNat C.ways.toNat s.S l).isSome=true:=by
  rw[kU] at b ⊢;cases hg':Go.Ct.get l (s'.S<|cT C.aY.toNat l) with
  |some x=>grind
  |none=>
   grind[bJ,aJk]
 grind
theorem Gp:(jN k S no i).length<=(S i).length:=by
 rw[jN];split;grind;by_cases e:i=cT k no;subst e;rw[cQ];exact zG.length_le;simp_all[Ab.bO,b0]
theorem aBx (d:iJ C s) (b:0<=l) (g:(bJ C.aY.toNat s.S no).2=0) (e:s'.S=jN C.aY.toNat s.S no):mY C s' l<=mY C s l:=by
 refine yd b (fun h=>?_) (by simp_all[Gp]);rw[e];by_cases f:l=no;subst f;have j:=Qu g;have k:=(d.aY<|cT C.aY.toNat l).len;omega;grind[nF]
theorem aEu {x:vU} (d:iJ C s) (b:0<=l) (g:(bJ C.aY.toNat s.S no).2=0) (e:s'.S=(pD C.aY.toNat C.ways.toNat s.S no x).1):mY C s' l<=mY C s l:=by
 refine yd b (fun h=>?_) (by simp_all[a7]);left;rw[e];by_cases f:l=no;subst f;rw[zW d.aY b<|yF d.aY g];grind[mV]
theorem Ui {core:Int} (d:iJ C s) (b:0<=l):mY C (lI C core s n).1 l<=mY C s l/\(lI C core s n).1.pO=s.pO/\(lI C core s n).1.al=s.al/\(lI C core s n).1.aw=s.aw:=by
 rw[lI];split;grind;split;rename_i e;refine⟨?_,rfl,rfl,rfl⟩;split;exact aBx d b e rfl;exact aEu d b e rfl;split;grind;split;grind;exact⟨b0 _,rfl,rfl,rfl⟩
structure aW2 (C:bQ) (s s':jR) (n:aG) (out:IA):Prop where
 w:(n.kind=9/\out=[])\/(n.kind=10/\out=[])\/(∃y:aG,out=[y]/\((n.kind=8/\y.kind=4)\/(n.kind=11/\y.kind=5)))
 uB:n.kind=10\/n.kind=11->s'.pO=s.pO/\s'.al=s.al/\s'.aw=s.aw
 al:n.kind=8\/n.kind=9->s.pO=true/\s.al=n.aI/\s'.pO=false
 aY7:∀l:Int,0<=l->mY C s' l<=mY C s l+(if n.kind=8 then 12 else 0)
theorem aA5:mY C s l<=12:=by grind[mY]
theorem aEt {core:Int} (h:iJ C s) (t:n.kind=8\/n.kind=9\/n.kind=10\/n.kind=11) (b:(fP C core s n).2.2=0):aW2 C s (fP C core s n).1 n (fP C core s n).2.1:=by
 have k:∀x,(iQ core n x).kind=5:=fun x=>by grind[iQ]
 rw[fP] at b ⊢;by_cases f:n.kind=8;rw[bA1 f] at b ⊢;split;grind;rename_i e;rw[vJ] at b ⊢;split;grind;rename_i g;split;grind;rename_i e2;split;grind;refine⟨FB,FA,fun _=>⟨FB,FA,rfl⟩,fun l _=>?_⟩;rw[bA1 f];exact cO aA5 FA;rw[bA0 f] at b ⊢;by_cases p:n.kind=9;rw[bA1 p] at b ⊢;split;grind;rename_i e;rw[Bh] at b ⊢;split;grind;rename_i g;split;grind;exact⟨FB,FA,fun _=>⟨FB,FA,rfl⟩,fun l _=>EK _ _⟩;rw[bA0 p] at b ⊢;by_cases d:n.kind=10;rw[bA1 d] at b ⊢;split;grind;rename_i e;rw[rS] at b ⊢;split;grind;rename_i g;split;grind;exact⟨FB,FB,FA,fun l _=>EK _ _⟩;rw[bA0 d] at b ⊢;rw[aac] at b ⊢;split;grind;rename_i e;have j:∃y:aG,(lI C core s n).2.1=[y]/\y.kind=5:=by
  rw[lI] at b ⊢;split;grind;split;grind;split;grind;split;grind;grind
 exact⟨FB,fun _=>(Ui (l:=0) h FA).2,FA,fun l q=>cO (Ui h q).1 FA⟩
end Go.Mc
