/- A part of the proof. -/
import Derived.Test.YtbcndiahccicpaaGreatDoorS15
import Derived.Lib.Bytealg
import Derived.Lib.Atoi
import Derived.Test.YtbcndiahccicpaaGreatDoorS14
import Derived.Test.YtbcndiahccicpaaGreatDoorS9
import Derived.Test.YtbcndiahccicpaaGreatDoorS20
import Derived.Test.YtbcndiahccicpaaGreatDoorS21
import Derived.Test.YtbcndiahccicpaaGreatDoorS18
import Derived.Test.YtbcndiahccicpaaGreatDoorS8
import Derived.Test.YtbcndiahccicpaaGreatDoorS19
import Derived.Test.YtbcndiahccicpaaGreatDoorS13
import Derived.Test.YtbcndiahccicpaaGreatDoorS17
set_option linter.all false
set_option maxRecDepth 100000
open Go Go.Ab
namespace Go.Proofs.Z
noncomputable section
def KV:FuncId->FJ->IX:=fun f a=>match f,a with
 |37,[.string s,.string ⟨⟨[c]⟩⟩]=>some (.val<|I<|Lib.countByte s.data.toList c)
 |139,[.string s,.string ⟨⟨[c]⟩⟩]=>some (.val<|I<|Lib.indexByte s.data.toList c)
 |141,[.string s]=>if s.size<=18 then(Lib.atoi s.data.toList).map fun v=> .val (.tuple ⟨[I v,.nilIface]⟩) else none
 |_,_=>none
abbrev K1:FuncId->FJ->IX:=orK KV K0
end
variable (E:Nat->TypeId) (Z:Nat->Nat×Nat)
def bB0:((run Pr K1 2000 (.call 14 [.string aU3])<|Xx gls E Z).any fun r=>(unB true r.1.v).any fun a=>aJ0 gls.length a [Sb 0 3,I 0,I 0] [.cells prA 55 (0,0) false] (aMg a) r.2)=true:=FU
end Go.Proofs.Z
variable {T:Nat->Bool} {m:Nat}
namespace Go.Proofs.Z
open Go.RowKit
noncomputable def bBo (B:Nat) (hB:12<=B):Pj Pr B K1:=(aGm B hB).or KV
 (fun f b v w a _=>by
  unfold KV at a;split at a;rename_i s c;cases a;exact⟨rfl,(Any.strings_Count_one Tryz.aOe s c w).mono fun e k ⟨d,i⟩=>⟨⟨_,d,fun _=>gY _ rfl⟩,by rw[i];exact Below.refl _ _⟩⟩;rename_i s c;cases a;exact⟨rfl,(Any.stringslite_Index_one Tryz.aP9 s c w).mono fun e k ⟨d,i⟩=>⟨⟨_,d,fun _=>gY _ rfl⟩,by rw[i];exact Below.refl _ _⟩⟩;rename_i s;split at a;rename_i p;obtain⟨n,o,e⟩:=ba.1 a;cases e;exact⟨rfl,(Any.internal_strconv_Atoi Tryz.aPw s n p o w).mono fun e k ⟨d,t,i⟩=>⟨⟨_,d,fun _=>gY _ rfl⟩,by rw[i];exact⟨rfl,rfl,rfl,by rw[Lib.bytesWorld_size];omega,fun j l=>Lib.bytesWorld_at_old w _ t j l⟩⟩⟩;cases a;cases a)
 (fun f b g q a=>by
  unfold KV at a;split at a;cases a;cases a;split at a;obtain⟨_,_,e⟩:=ba.1 a;cases e;cases a;cases a)
 (fun f b H a=>by
  unfold KV at a;split at a;cases a;cases a;split at a;obtain⟨_,_,e⟩:=ba.1 a;cases e;cases a;cases a)
variable {ρ:kX} {w:World} {σ:Sg}
def aKk {k:Nat} {a:Value} (h:σ k=(m,0,0)) (b:T k=true) (c:bB ρ (.pointer<|some ⟨m,0,none⟩) a):bB (J4 σ T ρ) (.pointer<|some ⟨k,0,none⟩) a:=
 aJ4 (v:= .pointer (some ⟨k,0,none⟩)) b (by show Value.pointer (some ⟨(σ k).1,(σ k).2.1+0,none⟩)=_;rw[h]) c
def aKh {c s:FJ} {a:Value} (hc:c.all (okV T)=true) (h:Rcs σ c s) (d:bB ρ (.agg ⟨s⟩) a):bB (J4 σ T ρ) (.agg ⟨c⟩) a:=by
 obtain⟨b,k,e⟩:=d;exact⟨b,Z2 hc h k,e⟩
noncomputable def bBm (B:Nat) (hB:12<=B):Pj Pr B K:=(aGm B hB).or KH
 (fun f k v w i _=>by unfold KH at i;split at i<;>cases i)
 (fun f k g z i=>by unfold KH at i;split at i<;>cases i)
 (fun f k H i h v A hF ρ w r q j p=>by
  unfold KH at i;split at i;rename_i s;cases i;unfold FP at hF;split at hF;rename_i o;obtain⟨rfl,σ,E,Z,n⟩:=o;cases hF;obtain⟨u,_,l,rfl,rfl⟩:=p;exact nf true (bBo _<|zH j) j xV (zH j) q n (bP.cons (by rw[zR _ _ rfl l];exact gY _ rfl) bP.nil)<|bB0 E Z;cases hF;rename_i m;cases i;unfold FS at hF;split at hF;rename_i o;obtain⟨a,b,c,d,σ,E,Z,n,e⟩:=o;cases hF;obtain⟨u,_,l,rfl,rfl⟩:=p;exact nf false (aGm _<|zH j) j xV (zH j) q n (bP.cons (aKk e rfl l) bP.nil)<|bBq a b c d E Z;cases hF;rename_i c s;cases i;unfold FC at hF;split at hF;rename_i o;obtain⟨σ,E,Z,n,rfl,e⟩:=o;cases hF;obtain⟨u,_,l,⟨y,_,t,rfl,rfl⟩,rfl⟩:=p;exact ju (aGm _<|zH j) j xV (zH j) q n (bP.cons (by rw[zR _ _ rfl l];exact gY _ rfl)<|bP.cons (aKh rfl e t) bP.nil) (bBk E Z) rfl;cases hF;rename_i s m;cases i;unfold FH at hF;split at hF;rename_i o;obtain⟨a,b,c,d,σ,E,Z,n,x,e2⟩:=o;cases hF;obtain⟨u,_,l,⟨y,_,t,rfl,rfl⟩,rfl⟩:=p;exact ju (aGm _<|zH j) j xV (zH j) q n (bP.cons (aKh rfl e2 l)<|bP.cons (aKk x rfl t) bP.nil) (bBt a b c d E Z) rfl;cases hF;cases i)
end Go.Proofs.Z
variable {a al:FM} {N c hb i n:Nat} {L L':IU} {Q:Value->AH->Prop} {k:Value->Prop} {p:Nat->Bool} {ov pv t2 t72 vv:Value} {os vs:FK}
section
attribute [local irreducible] cC Br vZ yU Ar Jj rJ Ce qL dj lQ sJ wV wJ vF rB A6 Yn Wh W3 Wi Wj gf qN tZ nJ mM Dv O9 pX Vx cn E2 Cl F3 ga zF yL oI jF eX dO
namespace Go.Proofs.Z
open Go.Hm Go.At Go.Mc Go.Nt
def fE (q:Nat):FJ:=[.func (.func 335) #[] #[JM q]]
instance:Fx fE 1:=⟨fun _=>rfl,fun _=>rfl⟩
abbrev fns (a:FM) (c:Nat) (l:FL):HP:=ls fE 1 176 a c l
def iT (F:eO):Nat->IT:=fun k=>F (k/4)<|k % 4
def E4 (F:eO):Nat->Nat
 |0=>0
 |n+1=>E4 F n+(iT F n).length
def ar {F:eO} (a:∀c w,(F c w).length<=500):∀n,E4 F n<=500*n
 |0=>bb _
 |n+1=>by
  have b:=ar a n;have d:=a (n/4)<|n % 4;show E4 F n+(F (n/4)<|n % 4).length<=_;omega
def aKy {l done:FL} {y:Nat} (h:done++[y]<+:l):done.length<l.length/\l.getD done.length 0=y:=by
 obtain⟨t,rfl⟩:=h;refine⟨FW,?_⟩;simp[aP]
variable {G:Bg} {h:AH} {M:IU} {C:bQ}
abbrev Z7:Nat->Nat->IT->HP:=fun _ q l=>vnR q l
def aXx {l:FL} (g:Hs G h L) [m:dZ (fns a c) L l L'] (e:i<l.length) (f:k (.func (.func 335) #[] #[JM<|l.getD i 0])):cC (qN 1 (.slice a l.length c)<|I i) fun p=>cC (vZ h p) k:=by
 have n:l[i]?=some (l.getD i 0):=by rw[aP,b0 e];rfl
 obtain⟨b,o,rfl,d⟩:=(m.of g).jW FQ;apply fK e;exact aE (b:=b) (o:=o) (j:=i*1) d (bx (enc:=fE) (W:=1) (j:=0) n rfl) f
def yx (z:Nat) (l:FL):HP:=Cr fun x:FM×Nat=>sp [aK z 0 [.slice x.1 l.length x.2],fns x.1 x.2 l]
variable {F:eO}
def aQj {f:Nat} {t:Value} (hC:C.Ok) (v:∀c w,(F c w).length<=500) (z:(i:Int)<C.aB)
  (A:∀b a c k,b.length=4*i+4->Hs G k (fns a c b::uZ Z7 b (iT F)::sI C f F::L)->Dd 103 6 [] Q [JM f,.slice a b.length c,t,I i] k):
  ∀(g w:Nat) (b:FL) (a:FM) (c:Nat) (h:AH),w+g=4->b.length=4*i+w->Hs G h (fns a c b::uZ Z7 b (iT F)::sI C f F::L)->Dd 103 4 [] Q [JM f,.slice a b.length c,I i,t,I i,I w] h:=by
 have H:=hC.1
 intro g
 induction g with
 |zero=>
  intro w b a c h B o d
  exact bW (bF<|aab<|A b a c h FQ d)
 |succ g D=>
  intro w b a c h B o d
  refine bW<|bF<|aae<|bW<|po (C:=C) (F:=F) (x:=i) (y:=w) hC v z FQ d fun q h d=>?_
  have u:iT F b.length=F i w:=by
   rw[iT];rw[o,show(4*i+w)/4=i by omega,show(4*i+w) % 4=w by omega]
  have d:Hs G h (Z7 b.length q (iT F b.length)::sI C f F::fns a c b::uZ Z7 b (iT F)::L):=by rw[u];exact d.to
  refine aZ (c:=fE q) rfl<|eA (W:=1) (n:=1) (c:=1) d rfl rfl rfl fun j h d=>?_
  have d:=sG (enc:=fE) (W:=1) (e:=176) (x:=q) d
  refine qV (enc:=fE) (W:=1) (e:=176) (l:=b) (l2:=[q]) (a:=a) (c:=c) (a2:=some j) (c2:=1) d FX fun p r h d=>?_
  exact aad<|D (w+1) (b++[q]) p r h FQ FX (Q6 (R:=Z7) (l:=b) (q:=q) (s:=iT F)<|d.dC (Z7 b.length q<|iT F b.length)<|uZ Z7 b<|iT F).to
def aNj {f:Nat} (hC:C.Ok) (n:∀c w,(F c w).length<=500) (j:Hs G h L) [m:dZ (sI C f) L F L']
  (q:∀z d k,d.length=4*C.aB.toNat->Hs G k (yx z d::uZ Z7 d (iT F)::sI C f F::L')->Q (.func (.func 239) #[] #[JM z]) k):JL 103 [JM f] h Q:=by
 have u:=hC.1
 have loop:∀(g i:Nat) (d:FL) (a:FM) (c:Nat) (h:AH),i+g=C.aB.toNat->d.length=4*i->Hs G h (fns a c d::uZ Z7 d (iT F)::sI C f F::L')->Dd 103 2 [] Q [JM f,.slice a d.length c,I C.aB,I i] h:=by
  intro g;induction g with
  |zero=>
   intro i d a c h p l j;refine bW<|bF<|aab<|cW<|fB j fun z h j=>q z d h FQ ?_;exact Hs.Cq (A:=fun x:FM×Nat=>sp [aK z 0 [.slice x.1 d.length x.2],fns x.1 x.2 d]) (a,c) j.F6
  |succ g r=>
   intro i d a c h p l j;refine bW<|bF<|aae<|bW ?_;refine aQj (f:=f) (i:=i) (t:=I C.aB) hC n FQ (fun d a c h l j=>?_) 4 0 d a c h rfl FQ j;exact bW<|aad<|r (i+1) d a c h FQ FQ j
 have⟨pl,j⟩:=Ds<|m.of j
 refine cW<|x6<|gA<|bW<|aC<|aA<|aA<|ai f j (v:=I C.aB) rfl ?_
 exact loop C.aB.toNat 0 [] none 0 h FQ rfl<|vC (enc:=fE) (W:=1) (e:=176)<|Rw (R:=Z7) (s:=iT F)<|rX j
def aSj {z:Nat} {l:FL} (hb:l.length<=1000):Yds Pr K G 239 [] [JM z] (yx z l) (l.map fE):=by
 intro k J y L h Q d u p q;have⟨⟨a,c⟩,d⟩:=d.Cc;have d:=d.A7;have e:∀{h:AH} {M:IU},Hs G h (aK z 0 [.slice a l.length c]::fns a c l::M)->Hs G h (yx z l::M):=fun d=>Hs.Cq (A:=fun x:FM×Nat=>sp [aK z 0 [.slice x.1 l.length x.2],fns x.1 x.2 l]) (a,c) d.F6;refine cW<|ai z d rfl<|dB ?_;have loop:∀(f i:Nat) (h:AH),i+f=l.length->Hs G h (aK z 0 [.slice a l.length c]::fns a c l::k ((l.drop i).map fE)::L)->Dd 239 1 [] Q [y,.slice a l.length c,I l.length,I i] h:=by
  intro f;induction f with
  |zero=>
   intro i h s d;rw[eo FQ] at d;exact bW (bF<|aab<|p _ _<|e d)
  |succ f B=>
   intro i h s d;have g:i<l.length:=FQ
   have r:l.drop i=l.getD i 0::l.drop (i+1):=by rw[l7 g,aP,b0 g];rfl
   rw[r,k7] at d;refine bW<|bF<|aae<|bW<|aXx (l:=l) (a:=a) (c:=c) d g ?_;refine(u _ _ h _<|d.bE<|k (fE (l.getD i 0)::((l.drop<|i+1).map fE))).mono fun v n t=>?_;rcases t with⟨rfl,j⟩|⟨rfl,j⟩;exact cZ<|cY<|bW<|aad<|B (i+1) n FQ j.to;exact cZ<|gA<|q _ _<|e j.to
 exact loop l.length 0 h FQ (by rwa [ll])
abbrev flX (p:Nat) (e:Nat->Value) (d l:Nat) (a:FL) (F:eO) (done:FL):HP:=sp [pD Pr 65 (qK 58) 13 e d l (.ready,none),aK p 0 [I<|E4 F done.length],uZ Z7 a<|iT F]
abbrev flY (p n:Nat) (e e2:Nat->Value) (d l l2:Nat) (done:IT):HP:=sp [pD Pr 65 (qK 938) 13 e2 d l2 (.ready,none),pD Pr 65 (qK 58) 13 e d l (.busy,none),aK p 0 [I (n+done.length:Nat)]]
theorem aDp {f:Nat} (hC:C.Ok) (u:∀c w,(F c w).length<=500) (a:Hs G h L) [m:dZ (sI C f) L F L']
  (Y:∀D,Hs G D (sI C f F::L')->Q (I<|E4 F<|4*C.aB.toNat) D):JL 65 [JM f] h Q:=by
 have hc:=hC.1
 refine cW<|cT (m.of a) fun p h a=>an (b:=p) a fun h a=>aNj (C:=C) (F:=F) hC u a fun z g h B a=>?_
 refine nY a fun d h a=>?_
 intro e W
 refine rK a fun l h a=>xU rfl ?_
 have a:Hs G h (yx z g::flX p e d l g F []::mk d ()::sI C f F::L'):=by
  have a:=(a.dV (pD Pr 65 (qK 58) 13 e d l (.ready,none)) (aK p 0 [I 0])<|uZ Z7 g<|iT F).Vy;have a:Hs G h (flX p e d l g F []::_):=a;exact a.to
 refine(aSj (z:=z) (l:=g) FQ).No (X:=flX p e d l g F) (Z:=fun _ _=>Dw False) a ?_ ?_ ?_
 .intro done y h N J a;have a:=a.Fc;have⟨hdl,hy⟩:=aKy J;have a:=jH (R:=Z7) (l:=g) (s:=iT F) hdl a;rw[hy] at a;refine rW (yJ a) W<|kV a fun h a=>aCb a ?_;intro e2 A;refine rK a fun r h a=>xU rfl ?_;have a:Hs G h (vnR y (iT F done.length)::flY p (E4 F done.length) e e2 d l r []::Ms Z7 g (iT F) done.length::N):=by
   have a:=(a.dV (pD Pr 65 (qK 938) 13 e2 d r (.ready,none)) (pD Pr 65 (qK 58) 13 e d l (.busy,none))<|aK p 0 [I<|E4 F done.length]).Vy;exact a.to
  have H:(iT F done.length).length<=500:=u _ _
  have O:=ar u done.length
  refine(aWx (q:=y) (l:=iT F done.length) FQ).No (X:=flY p (E4 F done.length) e e2 d l r) (Z:=fun _ _=>Dw False) a ?_ ?_ ?_
  .intro k x h N n a;have a:=a.Fc;have α:k.length<=500:=by have:=n.length_le;simp at this;omega
   refine rW (yJ a) A<|kV a fun h a=>ai p a rfl<|aad<|an (b:=p) a fun h a=>lM a fun h a=> .inl ⟨rfl,?_⟩
   have t:((E4 F done.length+k.length:Nat):Int)+1=((E4 F done.length+(k++[x]).length:Nat):Int):=FX
   rw[t] at a
   exact((a.dV (pD Pr 65 (qK 938) 13 e2 d r (.ready,none)) (pD Pr 65 (qK 58) 13 e d l (.busy,none))<|aK p 0 [I (E4 F done.length+(k++[x]).length:Nat)]).Vy).to
  .intro v h a;have a:=(a.bE<|flY p (E4 F done.length) e e2 d l r<|iT F done.length).Fc;refine rD a fun h a=>rF<|lM a fun h a=> .inl ⟨rfl,?_⟩;have t:E4 F done.length+(iT F done.length).length=E4 F (done++[y]).length:=by rw[dd];rfl
   rw[t] at a
   have V:vnR y (iT F done.length)=Z7 done.length (g.getD done.length 0) (iT F done.length):=by rw[hy]
   rw[V] at a
   have a:=H0 (R:=Z7) (l:=g) (s:=iT F) (i:=done.length) (x:=iT F done.length) hdl<|a.dC (Z7 done.length (g.getD done.length 0)<|iT F done.length)<|Ms Z7 g (iT F) done.length
   have U:(fun j=>if j=done.length then iT F done.length else iT F j)=iT F:=by funext j;split<;>simp_all
   rw[U] at a
   exact((a.dV (pD Pr 65 (qK 58) 13 e d l (.ready,none)) (aK p 0 [I<|E4 F (done++[y]).length])<|uZ Z7 g<|iT F).Vy).to
  .intro k x v h n a;have⟨hf,a⟩:=(a.bE<|Dw False).z7;exact hf.elim
 .intro v h a;have a:=(a.bE<|flX p e d l g F g).Fc;rw[B] at a;exact rD a fun h a=>rF<|ai p a rfl<|qQ a fun h a=>nU<|Y _ a.to
 .intro done y v h J a;have⟨hf,a⟩:=(a.bE<|Dw False).z7;exact hf.elim
end Go.Proofs.Z
namespace Go.Proofs.Z
open Go.Hm Go.At Go.Mc Go.Ct Go.Nt
def Xl {F:eO}:∀n,((List.range n).flatMap fun c=>(List.range 4).flatMap fun w=>F c w).length=E4 F (4*n)
 |0=>rfl
 |n+1=>by
  rw[ep (n:=n),oX,dd,Xl n];have e:E4 F (4*(n+1))=E4 F (4*n)+(F n 0).length+(F n 1).length+(F n 2).length+(F n 3).length:=by
   show E4 F (4*n)+(F ((4*n)/4)<|(4*n) % 4).length+(F ((4*n+1)/4)<|(4*n+1) % 4).length+(F ((4*n+2)/4)<|(4*n+2) % 4).length+(F ((4*n+3)/4)<|(4*n+3) % 4).length=_;rw[show(4*n)/4=n by omega,show(4*n) % 4=0 by omega,show(4*n+1)/4=n by omega,show(4*n+1) % 4=1 by omega,show(4*n+2)/4=n by omega,show(4*n+2) % 4=2 by omega,show(4*n+3)/4=n by omega,show(4*n+3) % 4=3 by omega]
  have e2:(([n]:FL).flatMap fun c=>(List.range 4).flatMap fun w=>F c w).length=(F n 0).length+(F n 1).length+(F n 2).length+(F n 3).length:=by
   simp[ep];omega
  rw[e,e2];omega
def aM6 (a:i<n) (h:p i=false):(List.range n).all p=false:=by
 rw[List.all_eq_false];exact⟨i,AI.2 a,by rw[h];decide⟩
def aB7 (h:∀i,i<n->p i=true):(List.range n).all p=true:=ux.2 fun i a=>h i<|AI.1 a
variable {G:Bg} {h:AH} {Cf:bQ} {M:bU}
theorem Nk (hC:Cf.Ok) (hG:Gb G) (hL:vy Cf M.cD) (hi:Bh Cf M.aJ (2^30)) (d:Hs G h L) [mm:dZ (bY G Cf m) L M L'] (n:∀W,Hs G W (bY G Cf m M::L')->Q (.bool<|M.over Cf) W):JL 24 [JM m] h Q:=by
 have hc:=hC.1;have β:=bQ.fF hC;have r:=hL.V9 hC;have A:=Xl (F:=M.cD) Cf.aB.toNat;have X:=ar r<|4*Cf.aB.toNat;obtain⟨x,k,d⟩:=dH<|mm.of d;refine cW<|dN<|cY<|aC<|aA<|ai m d rfl<|aDp (C:=Cf) (F:=M.cD) hC r d fun h d=>?_;have d:=cB (m:=m) (x:=x) M k d;unfold bU.over bU.rh at n;refine qA<|bG (fun h1=>?_) fun h1=>bW ?_;rw[cr fun e=>by rw[e] at A;simp at A;omega,y0,y0] at n;exact n _ d;rw[cj<|hY FQ,AU] at n;have aF:∀(f l:Nat) (h:AH),(List.range Cf.aB.toNat).all (fun i=>(M.aD i).over&& !(M.bR i).pM&& !(M.aT i).dM)=true->l+f=Cf.aF->(∀j,j<l->(M.aJ j).1.aH=[])->Hs G h (bY G Cf m M::L')->Dd 24 6 [] Q [JM m,I Cf.aF,I l] h:=by
  intro f;induction f with
  |zero=>
   intro l h B U u d;rw[B,AU,aB7 fun j q=>cj<|u j FQ] at n;exact bW (bF<|aab<|n _ d)
  |succ f V=>
   intro l h B U u d;obtain⟨x,k,d⟩:=dH d;refine bW<|bF<|aae<|bW<|aC<|aA<|ai m d rfl<|H.aJa (C:=Cf) (H:=M.aJ) (x:=l) d fun d=>?_;have d:=cB (m:=m) (x:=x) M k d;have e:L0 Cf M.aJ l=(M.aJ l).1.aH.length:=by unfold L0;rw[bD2 HF,aL]
   rw[e];refine qA<|bG (fun J=>?_) fun J=>bW<|aad<|V (l+1) h B FQ (fun j q=>?_) d;rw[B,AU,aM6 (i:=l) FQ<|cr fun e=>by rw[e] at J;simp at J] at n;exact n _ d;by_cases e:j=l;subst e;exact hY FQ;exact u j FQ
 have aB:∀(f i:Nat) (x:MN) (h:AH),so Cf x->i+f=Cf.aB.toNat->(∀j,j<i->((M.aD j).over&& !(M.bR j).pM&& !(M.aT j).dM)=true)->Hs G h (vD G Cf m x M::L')->Dd 24 2 [] Q [JM m,.slice x.ac x.lc.length x.cc,I x.lc.length,I i] h:=by
  intro f;induction f with
  |zero=>
   intro i x h k O u d;have α:=k.1;refine bW<|bF<|aab<|bW ?_;obtain⟨k,d⟩:=nR d;refine aC<|aA<|nD (b:=m) (o:=0) d FV (l:=Cf.enc) rfl rfl<|uS (C:=Cf) hC hG.Nq d fun h d=>?_;have d:=cB (m:=m) (x:=x) M k d;exact aF Cf.aF 0 h (aB7 fun j q=>u j FQ) FQ (fun j q=>FQ) d
  |succ f V=>
   intro i x h k O u d;obtain⟨_,d⟩:=nR d;obtain⟨l1,Y,l3⟩:=k;have z:i<x.lc.length:=FQ
   have v:i<x.lk.length:=FQ
   have y:i<x.lq.length:=FQ
   refine bW<|bF<|aae<|bW<|Kg d z<|aC<|aA<|ai m d rfl<|N2 d v ?_;have d:=jH (R:=uO G Cf) (l:=x.lk) (s:=M.bR) v d;refine C.aI8 (C:=Cf) (core:=i) (c:=x.lk.getD i 0) (s:=M.bR i) d fun h d=>aN rfl<|aN rfl<|aN rfl ?_;have d:=H0 (R:=uO G Cf) (l:=x.lk) (s:=M.bR) (i:=i) (x:=M.bR i) v<|d.dC (C.lR G (x.lk.getD i 0) Cf i<|M.bR i)<|Ms (uO G Cf) x.lk M.bR i;have e4:(fun j=>if j=i then M.bR i else M.bR j)=M.bR:=by funext j;split<;>simp_all
   rw[e4] at d;refine aC<|aA<|ai m d rfl<|O5 d y ?_;have d:=jH (R:=uL Cf) (l:=x.lq) (s:=M.aT) y d;refine uk (C:=Cf) (p:=x.lq.getD i 0) (s:=M.aT i) d fun g a h d=>aN rfl<|aN rfl<|aN rfl ?_;have d:=Bs (Cf:=Cf) (l:=x.lq) (s:=M.aT) (i:=i) (t:=M.aT i) y d;rw[cK] at d;refine cf (l:=x.lc) (S:=M.aD) z d ?_;have d:=tH (m:=m) (x:=x) M ⟨l1,Y,l3⟩ d;have no:((M.aD i).over&& !(M.bR i).pM&& !(M.aT i).dM)=false->Q (.bool false) h:=fun e=>by
    rw[aM6 (i:=i) FQ e,y0] at n;exact n _<|aHf d
   refine cZ (fR<|dX (fun a1=>dX (fun D=>no<|by rw[D];simp) fun D=>dX (fun a3=>no<|by rw[a3];simp) fun a3=>bW<|aad ?_) fun a1=>no<|by rw[a1];rfl);refine V (i+1) x h ⟨l1,Y,l3⟩ FQ (fun j q=>?_) d;by_cases e:j=i;subst e;rw[a1,D,a3];rfl;exact u j FQ
 obtain⟨x,d⟩:=xf d;obtain⟨k,d⟩:=nR d;refine aC<|aA<|ai m d rfl<|dB ?_;have d:=tH (m:=m) (x:=x) M k d;exact aB Cf.aB.toNat 0 x h k FQ (fun j u=>FQ) d
end Go.Proofs.Z
namespace Go.Proofs.Z.H
open Go.Hm Go.Mc
def Gf (H:nC) (l:Nat):Bool:= !(H l).1.busy&&decide ((H l).1.aH≠[])
def pF (H:nC) (n:Nat):FL:=(List.range n).filter fun l=>Gf H l
def aQ9 {H:nC}:pF H (n+1)=pF H n++if Gf H n then [n] else []:=by
 unfold pF;rw[ep,AT,DO,EZ]
def ib {H:nC}:(pF H n).length<=n:=by
 have:=ss (fun l=>Gf H l)<|List.range n;simp at this;exact this
variable {G:Bg} {h:AH}
def lu (G:Bg) (C:bQ) (q hb:Nat) (H:nC):HP:=sp [aK q 0 [JM hb],jG G hb C H]
def Aa (H:nC):Nat->Nat->FL
 |0,_=>[]
 |f+1,i=>if Gf H i then i::Aa H f (i+1) else Aa H f (i+1)
def aB8 {H:nC}:∀(f i:Nat),pF H (i+f)=pF H i++Aa H f i
 |0,i=>by simp[Aa]
 |f+1,i=>by
  rw[show i+(f+1)=i+1+f by omega,aB8 (H:=H) f<|i+1,aQ9];show _=_++(if Gf H i then i::Aa H f (i+1) else Aa H f (i+1));split<;>simp
def aTh {C:bQ} {q:Nat} {H:nC} (u:C.aF<=1000):Yds Pr K G 326 [] [JM q] (lu G C q hb H) ((pF H C.aF).map fun l:Nat=>[I l]):=by
 intro t J y L h Q d R A D;have d:=d.A7;have d:=d.qS;have⟨mb,b,o,cap,d⟩:=rH d;have x:pF H C.aF=Aa H C.aF 0:=by
  have:=aB8 (H:=H) C.aF 0;rw[AD] at this;rw[this];rfl
 rw[x] at d;have k:∀{h:AH} {B:HP},Hs G h (fH C.aF (fun i=>gI b (o+i*25) (H i).1)::aK q 0 [JM hb]::aK hb 0 (mH mb C b o cap)::gK G C.aF mb C (fun i=>(H i).2)::gQ G 25 240 (some ⟨b,o,none⟩) cap C.aF b o::B::L)->Hs G h (lu G C q hb H::B::L):=fun {h B} d=>by
  have d:=Eb C H hb mb b o cap d;exact(d.dC (aK q 0 [JM hb])<|jG G hb C H).F6
 have loop:∀(f i:Nat) (h:AH),i+f=C.aF->Hs G h (fH C.aF (fun i=>gI b (o+i*25) (H i).1)::aK q 0 [JM hb]::aK hb 0 (mH mb C b o cap)::gK G C.aF mb C (fun i=>(H i).2)::gQ G 25 240 (some ⟨b,o,none⟩) cap C.aF b o::t ((Aa H f i).map fun l:Nat=>[I l])::L)->
   Dd 326 2 [] Q [y,.slice (some ⟨b,o,none⟩) C.aF cap,I C.aF,I i] h:=by
  intro f
  induction f with
  |zero=>
   intro i h F d
   exact bW (bF<|aab<|A _ _<|k d)
  |succ f s=>
   intro i h F d
   have r:i<C.aF:=FQ
   have d:=Lo (H:=H) (b:=b) (o:=o) r d
   have⟨wa,wc,d⟩:=fN d
   refine bW<|bF<|aae<|bW<|fK r<|bC (b:=b) (o:=o+i*25) d FV (l:=(H i).1.enc wa wc) rfl rfl<|cT d fun p3 h d=>an (b:=p3) d fun h d=>?_
   have vO:∀{h:AH} {B:HP} {M:IU},Hs G h (B::aK b (o+i*25) ((H i).1.enc wa wc)::eC 9 174 wa wc ((H i).1.aH.length,iK (H i).1.aH)::E8 b o C.aF H i::aK q 0 [JM hb]::aK hb 0 (mH mb C b o cap)::gK G C.aF mb C (fun i=>(H i).2)::gQ G 25 240 (some ⟨b,o,none⟩) cap C.aF b o::M)->
     Hs G h (fH C.aF (fun i=>gI b (o+i*25) (H i).1)::aK q 0 [JM hb]::aK hb 0 (mH mb C b o cap)::gK G C.aF mb C (fun i=>(H i).2)::gQ G 25 240 (some ⟨b,o,none⟩) cap C.aF b o::B::M):=fun {h B M} d=>by
    have d:=nO (H i).1 (a:=wa) (c:=wc)<|d.dC (aK b (o+i*25)<|(H i).1.enc wa wc)<|eC 9 174 wa wc ((H i).1.aH.length,iK (H i).1.aH)
    exact(Hs.aH0 (i:=i) (f:=fun i=>gI b (o+i*25) (H i).1) (g:=fun i=>gI b (o+i*25) (H i).1) r (fun j _=>rfl)<|d.dC (gI b (o+i*25) (H i).1)<|E8 b o C.aF H i).to
   refine aA<|ai p3 d rfl<|cZ<|fR<|dX (fun p=>?_) fun p=>?_
   .have e:Aa H (f+1) i=Aa H f (i+1):=by
     show(if Gf H i then _ else _)=_;rw[bD1<|by rw[Gf,p];simp]
    rw[e] at d
    exact aad<|s (i+1) h FQ<|vO d.to
   .refine aA (ai p3 d rfl<|dB<|qA<|bG (fun c2=>?_) fun c2=>?_)
    .have e:Aa H (f+1) i=i::Aa H f (i+1):=by
      show(if Gf H i then _ else _)=_;rw[bD2<|by rw[Gf,p];simp;intro e;rw[e] at c2;simp at c2]
     rw[e,k7] at d
     refine(R _ _ h _<|d.bE<|t ([I i]::(Aa H f<|i+1).map fun l:Nat=>[I l])).mono fun v z O=>?_
     rcases O with⟨rfl,n⟩|⟨rfl,n⟩
     .exact cZ (cY<|bW<|aad<|s (i+1) z FQ<|vO n.to)
     .exact cZ (gA<|D _ _<|k<|vO n.to)
    .have e:Aa H (f+1) i=Aa H f (i+1):=by
      show(if Gf H i then _ else _)=_;rw[bD1<|by rw[Gf,p];simp;exact hY FQ]
     rw[e] at d
     exact aad<|s (i+1) h FQ<|vO d.to
 refine cW<|ai q d rfl<|dN<|cY<|bW<|ai q d rfl<|aC<|aA<|ai hb d rfl<|dB ?_;exact loop C.aF 0 h FQ d.to
def Qi (x:Int):FJ:=[I x]
instance:Fx Qi 1:=⟨fun _=>rfl,fun _=>rfl⟩
def aM5 {l:FK}:eL Qi l=l.map I:=by
 induction l with
 |nil=>rfl
 |cons a l b=>rw[uU,b];rfl
def pH (l:FL):FK:=l.map fun x:Nat=>(x:Int)
abbrev hrX (p:Nat) (e:Nat->Value) (d l:Nat) (done:FL):HP:=Cr fun x:FM×Nat=>sp [pD Pr 208 (qK 58) 14 e d l (.ready,none),aK p 0 [.slice x.1 (pH done).length x.2],ls Qi 1 3 x.1 x.2<|pH done]
theorem ou {C:bQ} {H:nC} (g:C.aF<=1000) (f:Hs G h L) [D:dZ (jG G hb C) L H L']
  (B:∀q a c r,Hs G r (Ug 3 q a c (pH<|pF H C.aF)::jG G hb C H::L')->Q (.func (.func 303) #[] #[JM q]) r):JL 208 [JM hb] h Q:=by
 refine cW<|cT (D.of f) fun p h f=>cW<|fB f fun q h f=>nY f fun d h f=>?_
 intro e z
 refine rK f fun l h f=>xU rfl ?_
 have f:=vC (enc:=Qi) (W:=1) (e:=3) f
 have f:Hs G h (lu G C q hb H::hrX p e d l []::mk d ()::L'):=by
  have f:=(f.dV (pD Pr 208 (qK 58) 14 e d l (.ready,none)) (aK p 0 [.slice none 0 0])<|ls Qi 1 3 none 0 []).Vy;have f:Hs G h (hrX p e d l []::_):=Hs.Cq (A:=fun x:FM×Nat=>sp [pD Pr 208 (qK 58) 14 e d l (.ready,none),aK p 0 [.slice x.1 (pH []).length x.2],ls Qi 1 3 x.1 x.2<|pH []]) (none,0) f;have f:=(f.dC (aK q 0 [JM hb])<|jG G hb C H).F6;have f:Hs G h (lu G C q hb H::_):=f;exact f.to
 refine(aTh (C:=C) (q:=q) (hb:=hb) (H:=H) g).No (X:=hrX p e d l) (Z:=fun _ _=>Dw False) f ?_ ?_ ?_
 .intro done y h N t f;have s:done.length<=1000:=by
   have:=t.length_le;have:=ib (H:=H) (n:=C.aF);simp at*;omega
  have⟨⟨a,c⟩,f⟩:=f.Cc
  have f:=f.Fc
  refine rW (yJ f) z<|kV f fun h f=>ai p f rfl<|aZ (c:=[I y]) rfl<|eA (W:=1) (n:=1) (c:=1) f rfl rfl rfl fun k h f=>?_
  have f:=sG (enc:=Qi) (W:=1) (e:=3) (x:=(y:Int)) f
  refine qV (enc:=Qi) (W:=1) (e:=3) (l:=pH done) (l2:=[(y:Int)]) (a:=a) (c:=c) (a2:=some k) (c2:=1) f (by simp[pH];omega) fun i j h f=>an (b:=p) f fun h f=>lM f fun h f=> .inl ⟨rfl,?_⟩
  have e2:pH done++[(y:Int)]=pH (done++[y]):=by simp[pH]
  rw[e2] at f
  have f:=(f.dV (pD Pr 208 (qK 58) 14 e d l (.ready,none)) (aK p 0 [.slice i (pH<|done++[y]).length j])<|ls Qi 1 3 i j<|pH<|done++[y]).Vy
  exact(Hs.Cq (A:=fun x:FM×Nat=>sp [pD Pr 208 (qK 58) 14 e d l (.ready,none),aK p 0 [.slice x.1 (pH<|done++[y]).length x.2],ls Qi 1 3 x.1 x.2<|pH<|done++[y]]) (i,j) f).to
 .intro v h f;have⟨⟨a,c⟩,f⟩:=(f.bE<|hrX p e d l<|pF H C.aF).Cc;have f:=f.Fc;refine rD f fun h f=>rF<|ai p f rfl ?_;have f:=f.bE<|ls Qi 1 3 a c<|pH<|pF H C.aF;have u:ls Qi 1 3 a c (pH<|pF H C.aF)=eC 1 3 a c ((pH<|pF H C.aF).length,(pH<|pF H C.aF).map I):=by rw[ls];rw[aM5]
  rw[u] at f
  refine Pb (e:=3) (xs:=pH<|pF H C.aF) rfl f fun q2 h f=>qQ f fun h f=>nU<|B q2 a c _ ?_
  have f:=(f.bE<|lu G C q hb H).A7
  exact f.to
 .intro done y v h t f;have⟨hf,f⟩:=(f.bE<|Dw False).z7;exact hf.elim
end Go.Proofs.Z.H
namespace Go.Proofs.Z
open Go.Hm Go.At Go.Mc Go.Ct Go.Nt
instance:Fx Do.enc 4:=⟨fun _=>rfl,fun _=>rfl⟩
abbrev dos (a:FM) (c:Nat) (l:IY):HP:=ls Do.enc 4 38 a c l
def dsP (p:Nat) (l:IY) (x:FM×Nat):IU:=[aK p 0 [.slice x.1 l.length x.2],dos x.1 x.2 l]
def Vz (p:Nat) (l:IY):HP:=Cr fun x:FM×Nat=>sp<|dsP p l x
def tO (M:bU) (n:Nat):IY:=((List.range n).filter fun i:Nat=> !(M.aD i).over&& !M.aH i).map fun i:Nat=>(⟨0,i,0,0⟩:Do)
def zD (M:bU) (c n:Nat):IY:=((List.range n).filter fun w=>decide<|M.cD c w≠[]).map fun w:Nat=>(⟨1,c,w,0⟩:Do)
def Ui (M:bU) (n:Nat):IY:=(List.range n).flatMap fun c=>zD M c 4
def Dk (l:FL):IY:=l.map fun l:Nat=>(⟨2,l,0,0⟩:Do)
def Jf (C:bQ) (M:bU) (n:Nat):IY:=((List.range n).filter fun g:Nat=>M.gX C g).map fun g:Nat=>(⟨3,g,0,0⟩:Do)
variable {α:Type}
def Kk {f:Nat->α}:((List.range<|n+1).filter p).map f=((List.range n).filter p).map f++if p n then [f n] else []:=by
 rw[ep,AT,l4,DO,EZ];split<;>rfl
def Lk {f:Nat->α}:(((List.range n).filter p).map f).length<=n:=by
 have:=ss p<|List.range n;simp at this ⊢;exact this
def aJz {M:bU}:Ui M (n+1)=Ui M n++zD M n 4:=by
 unfold Ui;rw[ep,oX];simp
def bh {M:bU}:∀{n:Nat},(Ui M n).length<=4*n
 |0=>bb _
 |n+1=>by
  rw[aJz,dd];have:=bh (M:=M) (n:=n);have:(zD M n 4).length<=4:=Lk;omega
variable {G:Bg} {h:AH} {Cf:bQ} {p3:Nat} {M:bU}
def Gn {l:IY} (b:Hs G h (Vz p3 l::L)):∃a c,Hs G h (aK p3 0 [.slice a l.length c]::dos a c l::L):=by
 have⟨⟨a,c⟩,b⟩:=b.Cc;exact⟨a,c,b.A7⟩
def Gv {l:IY} {L1 L2:IU} (d:Hs G h L) [e:fZ (aK p3 0 [.slice a n c]) L L1] [f:fZ (dos a c l) L1 L2] (b:n=l.length):Hs G h (Vz p3 l::L2):=by
 subst b;exact Hs.Cq (A:=fun x:FM×Nat=>sp<|dsP p3 l x) (a,c)<|Hs.nS (A:=dsP p3 l (a,c))<|d.cI<|e.cI.trans<|f.cI.cons _
def aNl {x:MN} (v:x.lc.length<=4) (u:jE Cf M.bH) (t:∀p,Hs G p (Vz p3 (tO M x.lc.length)::vD G Cf m x M::L)->Dd 130 4 [] Q [JM m,t2,JM p3,t72] p):
  ∀(f i:Nat) (h:AH),i+f=x.lc.length->Hs G h (Vz p3 (tO M i)::vD G Cf m x M::L)->Dd 130 2 [] Q [JM m,t2,JM p3,.slice x.ac x.lc.length x.cc,I x.lc.length,I i,t72] h:=by
 intro f
 induction f with
 |zero=>
  intro i h s d
  obtain rfl:i=x.lc.length:=FQ
  exact bW (bF<|aab<|t h d)
 |succ f k=>
  intro i h s d
  have j:i<x.lc.length:=FQ
  have hle:(tO M i).length<=i:=Lk
  have⟨hl,d⟩:=nR<|d.bE<|vD G Cf m x M
  refine bW<|bF<|aae<|bW<|Kg d j<|cf (l:=x.lc) (S:=M.aD) j d ?_
  have d:=tH (m:=m) (x:=x) M hl d
  refine cZ<|fR<|dX (fun a1=>aad<|k (i+1) h FQ ?_) fun a1=>Wy (x:=x) u d fun h d=>cZ<|fR<|dX (fun g=>bW<|aad<|k (i+1) h FQ ?_) fun g=>bW ?_
  .have e:tO M (i+1)=tO M i:=by unfold tO;rw[Kk,bD1<|by rw[a1];simp,kx]
   rw[e];exact d.to
  .have e:tO M (i+1)=tO M i:=by unfold tO;rw[Kk,bD1<|by rw[g];simp,kx]
   rw[e];exact d.to
  .have e:tO M (i+1)=tO M i++[⟨0,i,0,0⟩]:=by unfold tO;rw[Kk,bD2<|by rw[a1,g];rfl]
   have⟨a,c,d⟩:=Gn<|d.bE<|Vz p3<|tO M i
   refine ai p3 d rfl<|aZ (c:=(⟨0,i,0,0⟩:Do).enc) rfl<|aZ (c:=(⟨0,i,0,0⟩:Do).enc) rfl<|eA (W:=4) (n:=1) (c:=1) d rfl rfl rfl fun g h d=>?_
   have d:=sG (enc:=Do.enc) (W:=4) (e:=38) (x:=⟨0,i,0,0⟩) d
   refine qV (enc:=Do.enc) (W:=4) (e:=38) (l:=tO M i) (l2:=[⟨0,i,0,0⟩]) (a:=a) (c:=c) (a2:=some g) (c2:=1) d FX fun q r h d=>an (b:=p3) d fun h d=>aad<|k (i+1) h FQ ?_
   have d:=Gv (p3:=p3) (a:=q) (c:=r) (l:=tO M i++[⟨0,i,0,0⟩]) d rfl
   rw[e];exact d.to
abbrev dlX (p3 p6 a:Nat) (i w:Nat) (e:Nat->Value) (d l:Nat) (dl:IY) (st:LoopState×Option Code) (pr:Prop):HP:=sp [Dw pr,pD Pr 130 (qK 16410214) 96 e d l st,sp [aK p6 0 [I i],aK a 0 [I w]],Vz p3 dl]
def aR1 {p6:Nat} {t44:Value} {base:IY} (hC:Cf.Ok) (z:vy Cf M.cD) (J:(i:Int)<Cf.aB) (hb:base.length<=1000)
  (K:∀k u,Hs G u (Vz p3 (base++zD M i 4)::bY G Cf m M::r7 k::L)->Dd 130 14 k Q [JM m,t2,JM p3,t44,I i,t72] u):
  ∀(f w:Nat) (k:FL) (h:AH),w+f=4->Hs G h (Vz p3 (base++zD M i w)::aK p6 0 [I i]::bY G Cf m M::r7 k::L)->Dd 130 10 k Q [JM m,t2,JM p3,JM p6,t44,I i,I w,t72] h:=by
 intro f
 induction f with
 |zero=>
  intro w k h O g
  obtain rfl:w=4:=FQ
  exact bW (bF<|aab<|K k h g.to)
 |succ f A=>
  intro w k h O g
  have hle:(zD M i w).length<=w:=Lk
  have⟨x,hl,g⟩:=dH<|g.bE<|bY G Cf m M
  refine bW<|bF<|aae<|bW<|cT g fun j h g=>an (b:=j) g fun h g=>bI g fun R h g=>aC<|aA<|ai m g rfl<|ai p6 g rfl<|ai j g rfl ?_
  refine po (C:=Cf) (F:=M.cD) (x:=i) (y:=w) hC (z.V9 hC) J FQ g fun q h g=>nY g fun d h g=>?_
  have g:=cB (m:=m) (x:=x) M hl g
  intro e H
  refine rK g fun l h g=>xU rfl ?_
  have g:Hs G h (vnR q (M.cD i w)::dlX p3 p6 j i w e d l (base++zD M i w) (.ready,none) (([]:IT)=[])::mk d ()::r7 k::bY G Cf m M::L):=by
   have g:=(g.dC (aK p6 0 [I i])<|aK j 0 [I w]).F6;have g:=g.dV (pD Pr 130 (qK 16410214) 96 e d l (.ready,none)) (sp [aK p6 0 [I i],aK j 0 [I w]])<|Vz p3<|base++zD M i w;have g:=Hs.Rx<|Hs.dm (p:=([]:IT)=[]) rfl g;exact g.to
  refine(aWx (q:=q) (l:=M.cD i w)<|by have:=z.V9 hC i w;omega).No (X:=fun done=>dlX p3 p6 j i w e d l (base++zD M i w) (.ready,none)<|done=[]) (Z:=fun _ _=>dlX p3 p6 j i w e d l (base++zD M i w++[⟨1,i,w,0⟩]) (.done,some<|.exit 6)<|M.cD i w≠[]) g ?_ ?_ ?_
  .intro done y h N s g;have⟨r,g⟩:=kK g;have g:=g.Fc;have g:=(g.bE<|sp [aK p6 0 [I i],aK j 0 [I w]]).A7;have⟨a,c,g⟩:=Gn<|g.bE<|Vz p3<|base++zD M i w;refine rW (yJ g) H<|kV g fun h g=>ai p3 g rfl<|ai p6 g rfl<|ai j g rfl<|aZ (c:=(⟨1,i,w,0⟩:Do).enc) rfl<|aZ (c:=(⟨1,i,w,0⟩:Do).enc) rfl<|eA (W:=4) (n:=1) (c:=1) g rfl rfl rfl fun t h g=>?_;have g:=sG (enc:=Do.enc) (W:=4) (e:=38) (x:=⟨1,i,w,0⟩) g;refine qV (enc:=Do.enc) (W:=4) (e:=38) (l:=base++zD M i w) (l2:=[⟨1,i,w,0⟩]) (a:=a) (c:=c) (a2:=some t) (c2:=1) g FX fun B D h g=>an (b:=p3) g fun h g=>lM g fun h g=> .inr ⟨rfl,?_⟩;have g:=Gv (p3:=p3) (a:=B) (c:=D) (l:=base++zD M i w++[⟨1,i,w,0⟩]) g rfl;have g:=(g.dC (aK p6 0 [I i])<|aK j 0 [I w]).F6;exact(Hs.Rx<|Hs.dm (p:=M.cD i w≠[]) (fun e=>by rw[e] at s;have:=s.length_le;simp at this)<|g.dV (pD Pr 130 (qK 16410214) 96 e d l (.done,some<|.exit 6)) (sp [aK p6 0 [I i],aK j 0 [I w]])<|Vz p3<|base++zD M i w++[⟨1,i,w,0⟩]).to
  .intro v h g;obtain⟨r,g⟩:=kK<|g.bE<|dlX p3 p6 j i w e d l (base++zD M i w) (.ready,none)<|M.cD i w=[];have g:=g.Fc;have g:=(g.bE<|sp [aK p6 0 [I i],aK j 0 [I w]]).A7;have e2:zD M i (w+1)=zD M i w:=by unfold zD;rw[Kk,bD1<|by rw[r];simp,kx]
   refine rD g fun h g=>rF<|aad<|A (w+1) (d::k) h FQ ?_
   have g:=U0<|g.dC (mk d ())<|r7 k
   rw[e2];exact g.to
  .intro done y v h s g;obtain⟨r,g⟩:=kK<|g.bE<|dlX p3 p6 j i w e d l (base++zD M i w++[⟨1,i,w,0⟩]) (.done,some<|.exit 6)<|M.cD i w≠[];have g:=g.Fc;have g:=(g.bE<|sp [aK p6 0 [I i],aK j 0 [I w]]).A7;have e2:zD M i (w+1)=zD M i w++[⟨1,i,w,0⟩]:=by unfold zD;rw[Kk,bD2<|cj r]
   refine K4 g fun h g=>Oh rfl<|aad<|A (w+1) (d::k) h FQ ?_
   have g:=U0<|g.dC (mk d ())<|r7 k
   rw[e2,<-eh];exact g.to
def aO7 {base:IY} (hC:Cf.Ok) (j:vy Cf M.cD) (hb:base.length<=100)
  (l:∀a g,Hs G g (Vz p3 (base++Ui M Cf.aB.toNat)::bY G Cf m M::r7 a::L)->Dd 130 9 a Q [JM m,t2,JM p3,t72] g):
  ∀(f i:Nat) (a:FL) (h:AH),i+f=Cf.aB.toNat->Hs G h (Vz p3 (base++Ui M i)::bY G Cf m M::r7 a::L)->Dd 130 7 a Q [JM m,t2,JM p3,I Cf.aB.toNat,I i,t72] h:=by
 have p:=hC.1
 intro f
 induction f with
 |zero=>
  intro i a h k c
  obtain rfl:i=Cf.aB.toNat:=FQ
  exact bW (bF<|aab<|l a h c)
 |succ f o=>
  intro i a h k c
  have hle:=bh (M:=M) (n:=i)
  refine bW<|bF<|aae<|bW<|cT c fun d h c=>an (b:=d) c fun h c=>?_
  refine aR1 (G:=G) (L:=L) (i:=i) (p6:=d) (base:=base++Ui M i) hC j FQ FX (fun a h c=>bW<|aad<|o (i+1) a h FQ ?_) 4 0 a h rfl ?_
  .rwa [aJz,<-eh]
  .have e:base++Ui M i++zD M i 0=base++Ui M i:=by simp[zD]
   rw[e];exact c.to
def aN6 {t3':Value} {base:IY} (hC:Cf.Ok) (hG:Gb G) (u:Bh Cf M.aJ (2^30)) (hb:base.length<=1000)
  (v:∀a c k,Hs G k (dos a c (base++Jf Cf M Cf.aM.toNat)::bY G Cf m M::L)->Q (.slice a (base++Jf Cf M Cf.aM.toNat).length c) k):
  ∀(f g:Nat) (i:FL) (h:AH),g+f=Cf.aM.toNat->Hs G h (Vz p3 (base++Jf Cf M g)::bY G Cf m M::r7 i::L)->Dd 130 12 i Q [JM m,JM p3,I Cf.aM,I g] h:=by
 have p:=hC.2.1
 intro f
 induction f with
 |zero=>
  intro g i h t d
  obtain rfl:g=Cf.aM.toNat:=FQ
  have⟨a,c,d⟩:=Gn d
  exact bW (bF<|aab<|ai p3 d rfl<|aXv i (d.bE<|r7 i) fun h d=>v a c _ d.to)
 |succ f q=>
  intro g i h t d
  have hle:(Jf Cf M g).length<=g:=Lk
  refine bW<|bF<|aae<|bW<|Xc (Cf:=Cf) (M:=M) hC hG FQ u (d.bE<|bY G Cf m M) fun h d=>dX (fun a1=>bW ?_) fun a1=>bW<|aad<|q (g+1) i h FQ ?_
  .have e:Jf Cf M (g+1)=Jf Cf M g++[⟨3,g,0,0⟩]:=by unfold Jf;rw[Kk,bD2 a1]
   have⟨a,c,d⟩:=Gn<|d.bE<|Vz p3<|base++Jf Cf M g
   refine ai p3 d rfl<|aZ (c:=(⟨3,g,0,0⟩:Do).enc) rfl<|aZ (c:=(⟨3,g,0,0⟩:Do).enc) rfl<|eA (W:=4) (n:=1) (c:=1) d rfl rfl rfl fun j h d=>?_
   have d:=sG (enc:=Do.enc) (W:=4) (e:=38) (x:=⟨3,g,0,0⟩) d
   refine qV (enc:=Do.enc) (W:=4) (e:=38) (l:=base++Jf Cf M g) (l2:=[⟨3,g,0,0⟩]) (a:=a) (c:=c) (a2:=some j) (c2:=1) d FX fun r s h d=>an (b:=p3) d fun h d=>aad<|q (g+1) i h FQ ?_
   have d:=Gv (p3:=p3) (a:=r) (c:=s) (l:=base++Jf Cf M g++[⟨3,g,0,0⟩]) d rfl
   rw[e,<-eh];exact d.to
  .have e:Jf Cf M (g+1)=Jf Cf M g:=by unfold Jf;rw[Kk,bD1<|by rw[a1];simp,kx]
   rw[e];exact d.to
abbrev bgX (p3:Nat) (e:Nat->Value) (d l:Nat) (base:IY) (done:FK):HP:=sp [pD Pr 130 (qK 506) 96 e d l (.ready,none),Vz p3 (base++done.map fun l:Int=>(⟨2,l,0,0⟩:Do))]
def aN3 {base:IY} {g:FL} (hC:Cf.Ok) (hG:Gb G) (K:Bh Cf M.aJ (2^30)) (hb:base.length<=200)
  (O:∀a c j,Hs G j (dos a c (base++Dk (H.pF M.aJ Cf.aF)++Jf Cf M Cf.aM.toNat)::bY G Cf m M::L)->Q (.slice a (base++Dk (H.pF M.aJ Cf.aF)++Jf Cf M Cf.aM.toNat).length c) j)
  (f:Hs G h (Vz p3 base::bY G Cf m M::r7 g::L)):Dd 130 9 g Q [JM m,t2,JM p3,t72] h:=by
 have R:=bQ.fF hC
 have k:=hC.2.1
 have hle:=H.ib (H:=M.aJ) (n:=Cf.aF)
 have⟨x,hl,f⟩:=dH<|f.bE<|bY G Cf m M
 refine bW<|aC<|aA<|ai m f rfl<|H.ou (C:=Cf) (H:=M.aJ) FQ f fun q s t h f=>nY f fun d h f=>?_
 have f:=cB (m:=m) (x:=x) M hl f
 intro e J
 refine rK f fun l h f=>xU rfl ?_
 have f:Hs G h (H.Ug 3 q s t (H.pH<|H.pF M.aJ Cf.aF)::bgX p3 e d l base []::mk d ()::r7 g::bY G Cf m M::L):=by
  have A:base++([]:FK).map (fun l:Int=>(⟨2,l,0,0⟩:Do))=base:=kx _;have f:=(f.dC (pD Pr 130 (qK 506) 96 e d l (.ready,none))<|Vz p3 base).F6;have B:sp [pD Pr 130 (qK 506) 96 e d l (.ready,none),Vz p3 base]=bgX p3 e d l base []:=by rw[bgX];rw[A]
  rw[B] at f;exact f.to
 have U:(H.pH<|H.pF M.aJ Cf.aF).length<=100:=by rw[H.pH];rw[k6];omega
 refine(H.Hb (e:=3) (p:=q) (a:=s) (c:=t) (xs:=H.pH<|H.pF M.aJ Cf.aF) FQ).No (X:=bgX p3 e d l base) (Z:=fun _ _=>Dw False) f ?_ ?_ ?_
 .intro done y h N r f;have F:done.length<=100:=HC
  have f:=f.A7
  have⟨a,c,f⟩:=Gn<|f.bE<|Vz p3 (base++done.map fun l:Int=>(⟨2,l,0,0⟩:Do))
  refine rW (yJ f) J<|kV f fun h f=>ai p3 f rfl<|aZ (c:=(⟨2,y,0,0⟩:Do).enc) rfl<|aZ (c:=(⟨2,y,0,0⟩:Do).enc) rfl<|eA (W:=4) (n:=1) (c:=1) f rfl rfl rfl fun i h f=>?_
  have f:=sG (enc:=Do.enc) (W:=4) (e:=38) (x:=⟨2,y,0,0⟩) f
  refine qV (enc:=Do.enc) (W:=4) (e:=38) (l:=base++done.map fun l:Int=>(⟨2,l,0,0⟩:Do)) (l2:=[⟨2,y,0,0⟩]) (a:=a) (c:=c) (a2:=some i) (c2:=1) f FX fun u z h f=>an (b:=p3) f fun h f=>lM f fun h f=> .inl ⟨rfl,?_⟩
  have f:=Gv (p3:=p3) (a:=u) (c:=z) (l:=base++done.map (fun l:Int=>(⟨2,l,0,0⟩:Do))++[⟨2,y,0,0⟩]) f rfl
  have e2:base++done.map (fun l:Int=>(⟨2,l,0,0⟩:Do))++[⟨2,y,0,0⟩]=base++(done++[y]).map fun l:Int=>(⟨2,l,0,0⟩:Do):=FW
  rw[e2] at f
  exact((f.dC (pD Pr 130 (qK 506) 96 e d l (.ready,none))<|Vz p3 (base++(done++[y]).map fun l:Int=>(⟨2,l,0,0⟩:Do))).F6).to
 .intro v h f;have f:=(f.bE<|bgX p3 e d l base<|H.pH<|H.pF M.aJ Cf.aF).A7;have e2:base++(H.pH<|H.pF M.aJ Cf.aF).map (fun l:Int=>(⟨2,l,0,0⟩:Do))=base++Dk (H.pF M.aJ Cf.aF):=by unfold H.pH Dk;rw[CB];rfl
  rw[e2] at f
  refine rD f fun h f=>rF ?_
  have f:=U0<|f.dC (mk d ())<|r7 g
  have⟨x,hl,f⟩:=dH<|f.bE<|bY G Cf m M
  refine aC<|aA<|aA<|ai m f (v:=I Cf.aM) rfl ?_
  have D:base++Dk (H.pF M.aJ Cf.aF)++Jf Cf M 0=base++Dk (H.pF M.aJ Cf.aF):=kx _
  exact aN6 (t3':=t2) (base:=base++Dk (H.pF M.aJ Cf.aF)) hC hG K (by rw[Dk];simp;omega) (L:=L) O Cf.aM.toNat 0 (d::g) h FQ (by rw[D];exact(cB (m:=m) (x:=x) M hl f).to)
 .intro done y v h r f;have⟨hf,f⟩:=(f.bE<|Dw False).z7;exact hf.elim
def aCa (hC:Cf.Ok) (hG:Gb G) (q:jE Cf M.bH) (j:vy Cf M.cD) (k:Bh Cf M.aJ (2^30)) (d:Hs G h L) [r:dZ (bY G Cf m) L M L']
  (p:∀a c g,Hs G g (dos a c (M.ready Cf)::bY G Cf m M::L')->Q (.slice a (M.ready Cf).length c) g):JL 130 [JM m] h Q:=by
 have t:=hC.1
 refine cW<|dN<|cY<|bW<|cT (r.of d) fun p3 h d=>?_
 obtain⟨x,d⟩:=xf<|d.bE<|bY G Cf m M
 have⟨hl,d⟩:=nR d
 have f:=hl.1
 refine aC<|aA<|ai m d rfl<|dB ?_
 have d:=tH (m:=m) (x:=x) M hl d
 have d:=Gv (p3:=p3) (a:=none) (c:=0) (l:=[]) (vC (enc:=Do.enc) (W:=4) (e:=38) d) rfl
 refine aNl (x:=x) (L:=L') FQ q (fun h d=>?_) x.lc.length 0 h FQ<|show Hs G h (Vz p3 []::vD G Cf m x M::L') from d.to
 have⟨hl,d⟩:=nR<|d.bE<|vD G Cf m x M
 refine bW<|aC<|aA<|ai m d rfl<|dB ?_
 have d:=cB (m:=m) (x:=x) M hl d
 have d:=aP6 d
 rw[f] at d ⊢
 have hle:(tO M Cf.aB.toNat).length<=Cf.aB.toNat:=Lk
 have i:=bh (M:=M) (n:=Cf.aB.toNat)
 refine aO7 (base:=tO M Cf.aB.toNat) (L:=L') hC j FQ (fun s h d=>?_) Cf.aB.toNat 0 [] h FQ (by rw[show tO M Cf.aB.toNat++Ui M 0=tO M Cf.aB.toNat from kx _];exact d.to)
 exact aN3 (base:=tO M Cf.aB.toNat++Ui M Cf.aB.toNat) (L:=L') hC hG k FX p d
end Go.Proofs.Z
namespace Go.Proofs.Z
open Go.Hm Go.At Go.Mc Go.Ct Go.Nt Go.Is
variable {Cf:bQ} {M:bU} {S:Nat->aQ}
section
def aRw {d:Do}:(M.Au Cf [d] 0).2.2=(M.mC Cf d).2:=by
 unfold bU.Au;split;rfl;rename_i h;have:(M.mC Cf d).2=0:=cb.1 h;rw[this];rfl
variable {G:Bg} {h:AH}
def uu {cl:Nat} {l:IY} {r:bU×Nat} (hC:Cf.Ok) (hG:Gb G) (H:l.length<=1000) (A:∀t,Hs G t (bY G Cf m r.1::L)->Q (I r.2) t):
  ∀(f i N n:Nat) (M:bU) (h:AH),i+f=l.length->n<=2*i->Mc.db Cf S N M->N+4*f<=2^27->(l.drop i).foldl (lS Cf) (M,n)=r->Hs G h (dos al cl l::bY G Cf m M::L)->
   Dd 64 2 [] Q [.func (.func 7) #[JM m] #[],I n,.slice al l.length cl,I l.length,I i] h:=by
 intro f
 induction f with
 |zero=>
  intro i N n M h z B hA x k g
  rw[eo FQ] at k
  subst k
  exact bW (bF<|aab<|A _ g.tail)
 |succ f F=>
  intro i N n M h z B hA x k g
  obtain⟨d,D,y⟩:=qM (l:=l) (i:=i) FQ
  rw[y,CX] at k
  have u:=aAv (d:=d) hC hA (n:=n)
  have q:=hA.mC (d:=d) hC
  have next:∀(h:AH),Hs G h (dos al cl l::bY G Cf m (lS Cf (M,n) d).1::L)->Dd 64 2 [] Q [.func (.func 7) #[JM m] #[],I (lS Cf (M,n) d).2,.slice al l.length cl,I l.length,I<|(i:Int)+1] h:=fun h g=>by
   have s:=u.n1;have a3:wN d<=2:=by unfold wN;split<;>omega
   exact F (i+1) (N+4) (lS Cf (M,n) d).2 (lS Cf (M,n) d).1 h FQ FQ u.all FQ k g
  refine bW<|bF<|aae<|bW<|yX (l:=l) (a:=al) (c:=cl) (enc:=Do.enc) (e:=38) g FV FQ (by rw[aL];exact D)<|cT g fun p3 h g=>an (b:=p3) g fun h g=>?_
  refine am p3 g (l:=d.enc) rfl rfl<|aZ (c:=d.enc) rfl<|eA (W:=4) (n:=1) (c:=1) g rfl rfl rfl fun a h g=>?_
  have g:Hs G h (eC 4 38 (some a) 1 (1,d.enc)::bY G Cf m M::sp [aK p3 0 d.enc,dos al cl l]::L):=g.to
  refine vB rfl<|vn (d:=d) (M:=M) hC hG hA.inv FQ g fun h g=>aN rfl<|aN rfl ?_
  have g:=(g.bE<|sp [aK p3 0 d.enc,dos al cl l]).A7
  rw[aRw]
  refine bZ<|bG (fun j=>?_) fun j=>?_
  .have e:lS Cf (M,n) d=((M.mC Cf d).1,n):=by unfold lS;dsimp only;rw[bD2 j]
   rw[e] at next
   dsimp only at next
   exact bW<|aad<|next h g.to
  refine bW<|aad<|aA<|ai p3 g (v:=I d.mI) rfl<|bZ<|bG (fun c2=>?_) fun c2=>?_
  .have e:lS Cf (M,n) d=((M.mC Cf d).1,n+1):=by unfold lS;dsimp only;rw[bD1 j,bD2<|.inl c2]
   rw[e] at next
   dsimp only at next
   exact aad<|next h g.tail
  refine aA<|ai p3 g (v:=I d.b) rfl<|bZ<|bG (fun c3=>?_) fun c3=>bW ?_
  .have e:lS Cf (M,n) d=((M.mC Cf d).1,n+1):=by unfold lS;dsimp only;rw[bD1 j,bD2<|.inr c3]
   rw[e] at next
   dsimp only at next
   exact bW<|aad<|next h g.tail
  refine aA<|ai p3 g (v:=I d.a) rfl<|aZ (c:=(⟨0,d.a,0,0⟩:Do).enc) rfl<|aZ (c:=(⟨0,d.a,0,0⟩:Do).enc) rfl<|eA (W:=4) (n:=1) (c:=1) g rfl rfl rfl fun s h g=>?_
  have g:Hs G h (eC 4 38 (some s) 1 (1,(⟨0,d.a,0,0⟩:Do).enc)::bY G Cf m (M.mC Cf d).1::dos al cl l::L):=g.to
  refine vB rfl<|vn (d:=⟨0,d.a,0,0⟩) (M:=(M.mC Cf d).1) hC hG q.inv FQ g fun h g=>aN rfl<|aN rfl ?_
  rw[aRw]
  refine cF<|bG (fun p=>bW ?_) fun p=>bW ?_
  .have e:lS Cf (M,n) d=(((M.mC Cf d).1.mC Cf ⟨0,d.a,0,0⟩).1,n+2):=by unfold lS;dsimp only;rw[bD1 j,aaa,bD2 p]
   rw[e] at next
   dsimp only at next
   exact aad<|aad<|next h g.to
  .have e:lS Cf (M,n) d=(((M.mC Cf d).1.mC Cf ⟨0,d.a,0,0⟩).1,n+1):=by unfold lS;dsimp only;rw[bD1 j,aaa,bD1 p]
   rw[e] at next
   dsimp only at next
   exact aad<|next h g.to
def aFk (hC:Cf.Ok) (hG:Gb G) (hA:Mc.db Cf S N M) (i:N<=2^26) (b:Hs G h L) [g:dZ (bY G Cf m) L M L'] (e:∀d,Hs G d (bY G Cf m (M.round Cf).1::L')->Q (I (M.round Cf).2) d):JL 64 [JM m] h Q:=by
 obtain⟨n,o,r3⟩:=Ox (C:=Cf) (M:=M);have j:=hC.1;have k:=hC.2.1;have f:=bQ.fF hC;refine cW<|dN<|cY<|bW<|aCa (Cf:=Cf) (M:=M) hC hG hA.inv.bH hA.inv.cD.len (hA.inv.aJ.h FQ) (g.of b) fun a c h b=>dB ?_;exact uu (S:=S) (l:=M.ready Cf) (r:=M.round Cf) hC hG FQ e (M.ready Cf).length 0 N 0 M h FQ (bb _) hA FQ rfl b
end
section
variable {G:Bg} {h:AH}
def ky {most:Nat} (hC:Cf.Ok) (hG:Gb G) (hA:Mc.db Cf S N M) (O:N+400*most<=2^26) (a:Hs G h L) [X:dZ (bY G Cf m) L M L']
  (t:∀r,Hs G r (bY G Cf m (M.Bj Cf most 0).2::L')->Q (.tuple ⟨[I (M.Bj Cf most 0).1,.bool<|(M.Bj Cf most 0).2.over Cf]⟩) r):JL 8 [JM m,I most] h Q:=by
 obtain⟨R,D⟩:∃R,M.Bj Cf most 0=R:=⟨_,rfl⟩
 rw[D] at t
 refine cW<|fB (X.of a) fun p h a=>fB a fun u h a=>ai p a rfl<|dN<|cY<|bW<|cT a fun p1 h a=>an (b:=p1) a fun h a=>ai p a rfl<|ai u a rfl<|cW<|fB a fun q2 h a=>fB a fun s h a=>nY a fun d h a=>?_
 intro e V
 refine rK a fun l h a=>xU rfl ?_
 have loop:∀(x:Value->AH->Prop),(∀(st:LoopState) (pd:Option Code) (k:Nat) (v:Nat) (q:bU) r,(st= .ready/\pd=none\/st= .done/\pd=some (.exit 0))->Mc.db Cf S v q->v<=2^26->(k,q)=R->
    Hs G r (bY G Cf m q::aK q2 0 [JM m]::aK s 0 [I most]::aK p 0 [JM m]::aK u 0 [I most]::aK p1 0 [I k]::pD Pr 8 (qK 122) 28 e d l (st,pd)::mk d ()::L')->x (.tuple ⟨[]⟩) r)->
   ∀(f no N:Nat) (g:bU) (h:AH),f+no=most->Mc.db Cf S N g->N+400*f<=2^26->g.Bj Cf f no=R->
   Hs G h (bY G Cf m g::aK q2 0 [JM m]::aK s 0 [I most]::aK p 0 [JM m]::aK u 0 [I most]::aK p1 0 [I no]::pD Pr 8 (qK 122) 28 e d l (.ready,none)::mk d ()::L')->
   Dd 63 2 [] x [.func (.yield l) #[] #[],JM q2,JM s,I<|(no:Int)+1] h:=by
  intro x z f
  induction f with
  |zero=>
   intro no N g h H hA J c a
   exact bW (ai s a rfl<|Ap<|aab<|z _ _ no N g h (.inl ⟨rfl,rfl⟩) hA FQ c a)
  |succ f F=>
   intro no N g h H hA J c a
   unfold bU.Bj at c
   refine bW<|ai s a rfl<|Ap<|aae<|ai q2 a rfl<|Nk (Cf:=Cf) (M:=g) hC hG hA.inv.cD.len (hA.inv.aJ.h FQ) a fun h a=>cZ<|fR<|dX (fun y=>?_) fun y=>bW ?_
   .rw[y,bD2 rfl] at c;exact z _ _ no N g h (.inl ⟨rfl,rfl⟩) hA FQ c a
   rw[y,bD1 Bool.false_ne_true] at c
   have i:=(aHx hC hA).all
   have B:((no:Int)+1)=((no+1:Nat):Int):=FQ
   refine ai q2 a rfl<|aFk (S:=S) (M:=g) hC hG hA FQ a fun h a=>?_
   refine rW (yJ a) V<|kV a fun h a=>an (b:=p1) a fun h a=>cF<|bG (fun W=>?_) fun W=>?_
   .refine ai p a rfl (Nk (Cf:=Cf) (M:=(g.round Cf).1) hC hG i.inv.cD.len (i.inv.aJ.h FQ) a fun h a=>cZ<|fR<|dX (fun n=>?_) fun n=>?_)
    .rw[n,bD1 FW] at c;refine lM a fun h a=>cZ<|cY<|bW<|aad ?_;rw[B] at a ⊢;exact F (no+1) (N+400) _ h FQ i FQ c a.to
    .rw[bD2 ⟨FQ,n⟩] at c;refine ai u a rfl<|an (b:=p1) a fun h a=>lM a fun h a=>cZ<|gA<|z _ _ (no+f+1) (N+400) (g.round Cf).1 h (.inr ⟨rfl,rfl⟩) i FQ c ?_;rw[show((no+f+1:Nat):Int)=most by omega];exact a.to
   .rw[aaa] at c;refine lM a fun h a=>cZ<|cY<|bW<|aad ?_;rw[B] at a ⊢;exact F (no+1) (N+400) _ h FQ i FQ c a.to
 refine cW<|ai q2 a rfl<|dN<|cY<|bW ?_
 refine loop _ (fun st pd k v q h A j U c a=>?_) most 0 N M h FQ hA O D a.to
 rw[<-c] at t
 rcases A with⟨rfl,rfl⟩|⟨rfl,rfl⟩
 .exact rD a fun h a=>rF<|bI a fun Y h a=>ai p1 a rfl<|ai p a rfl<|Nk (Cf:=Cf) (M:=q) hC hG j.inv.cD.len (j.inv.aJ.h FQ) a fun h a=>dT (ai p1 a rfl lG)<|qQ a fun h a=>nU<|t _ a.to
 .exact K4 a fun h a=>Oh rfl<|bI a fun Y h a=>ai p1 a rfl<|ai p a rfl<|Nk (Cf:=Cf) (M:=q) hC hG j.inv.cD.len (j.inv.aJ.h FQ) a fun h a=>dT (ai p1 a rfl lG)<|qQ a fun h a=>nU<|t _ a.to
end
variable {P:Nat->IW} {ps:List (IW)}
section
def Fk (ps:List (IW)):Nat:=(ps.map List.length).sum
def aI6:∀{ps:List (IW)},eZ (fun i=>(ps.getD i []).length) ps.length=Fk ps:=by
 intro ps;have:∀(n:Nat) (l:List (IW)),l.length=n->eZ (fun i=>(l.getD i []).length) n=Fk l:=by
  intro n;induction n with
  |zero=>intro l b;rw[hY b];rfl
  |succ n d=>
   intro l b;obtain⟨a,x,rfl⟩:∃a x,l=a++[x]:=⟨_,_,(List.dropLast_concat_getLast fun e=>by rw[e] at b;cases b).symm⟩;have c:a.length=n:=HN
   show eZ _ n+_=_;rw[nL (g:=fun i=>(a.getD i []).length) fun i f=>by
    rw[aP,aP,tb FQ]]
   rw[d a c];unfold Fk;show _+((a++[x]).getD n []).length=_;rw[l4,CF,aP,p4 FQ,c,BZ];simp
 exact this _ ps rfl
variable {G:Bg} {h:AH} {A0:AM}
def aDx {p:IW} {a:Nat} {x:iW} (h:p[a]?=some x):mW p (a:Int)=x:=by
 rw[mW,aL,aP,h];rfl
def qe {wv:Value} {ws:FK} (hn:ps.length<=9223372036854775807) (u:∀p∈ps,p.length<=9223372036854775807) (ho:A.Zy G pv wv ov vv ps ws os vs) (c:Hs G h L)
  (k1:(∀p∈ps,O2 p)->∀g,Hs G g L->Q (.bool true) g) (k2:¬(∀p∈ps,O2 p)->∀g,Hs G g L->Q (.bool false) g):JL 4 [.agg ⟨Bw Cf pv wv ov vv⟩] h Q:=by
 obtain⟨⟨vi,hv,y,t⟩,_,_,_⟩:=ho
 have lp:∀{k:Value->Prop},k (I ps.length)->cC (rB pv) k:=fun hk=>A.sY y (by simpa [hv] using hk)
 refine cW<|fB c fun p2 h c=>aA<|ai p2 c (v:=pv) rfl<|lp ?_
 have c:=c.tail
 have inner:∀(i:Nat) (v:Value) (p:IW),p∈ps->p.length<=9223372036854775807->A.Y8 G v p->(∀h,Hs G h L->O2 p->Dd 4 5 [] Q [.bool true,pv,I ps.length,I i] h)->∀(f a:Nat) (h:AH),a+f=p.length->(∀b:Int,0<=b->b<a->((mW p b).op=9->b<(mW p b).a)/\((mW p b).op=10->b<(mW p b).b))->Hs G h L->
   Dd 4 3 [] Q [.bool true,pv,I ps.length,I i,v,I p.length,I a] h:=by
  intro i v p J u d kk f
  induction f with
  |zero=>
   intro a h ha n c
   exact bW (bF<|aab<|kk h c fun b B Y=>n b B FQ)
  |succ f R=>
   intro a h ha n c
   have⟨x,hx,_⟩:=qM (l:=p) (i:=a) FQ
   have s:=aDx hx
   have k3:¬((x.op=9->(a:Int)<x.a)/\(x.op=10->(a:Int)<x.b))->∀g,Hs G g L->Q (.bool false) g:=fun hn=>k2 fun h=>hn (by have:=h p J a FQ FQ;rwa [s] at this)
   have next:((x.op=9->(a:Int)<x.a)/\(x.op=10->(a:Int)<x.b))->∀h,Hs G h L->Dd 4 3 [] Q [.bool true,pv,I ps.length,I i,v,I p.length,I<|(a:Int)+1] h:=fun D h c=>by
    have e1:((a:Int)+1)=((a+1:Nat):Int):=FQ
    refine R (a+1) h FQ (fun b B Y=>?_) c;by_cases e:b=(a:Int);rwa [e,s];exact n b B FQ
   refine bW<|bF<|aae<|bW<|aOc (A.Rb d c) FV (x:=x.enc) (by rw[A.ae,k9,hx];rfl)<|cT c fun p3 h c=>an (b:=p3) c fun h c=>?_
   have W:∀h,Hs G h (aK p3 0 x.enc::L)->((x.op=9->(a:Int)<x.a))->cC (lQ 0<|JM p3) fun v8=>cC (vZ h v8) fun v9=>cC (A6 .eql v9<|I 10) fun v10=>Br v10 (cC (lQ 2<|JM p3) fun v11=>cC (vZ h v11) fun v12=>cC (A6 .leq v12<|I a) fun U=>Br U (Dd 4 6 [] Q [] h)<|Dd 4 7 [] Q [.bool true,pv,I ps.length,I i,v,I p.length,I a] h) (cC (A6 .add (I a)<|I 1) fun V=>Dd 4 3 [] Q [.bool true,pv,I ps.length,I i,v,I p.length,V] h):=fun h c D=>by
    refine aA<|ai p3 c (v:=I x.op) rfl<|cF<|bG (fun r=>?_) fun r=>aad<|next ⟨D,fun e=>absurd e r⟩ _ c.tail;refine aA<|ai p3 c (v:=I x.b) rfl<|Ap<|bG (fun hle=>bW<|k3 (fun h=>FQ) _ c.tail) fun F=>bW<|aad<|next ⟨D,fun _=>FQ⟩ _ c.tail
   refine aA<|ai p3 c (v:=I x.op) rfl<|cF<|bG (fun X=>?_) fun X=>W _ c fun e=>absurd e X
   exact aA<|ai p3 c (v:=I x.a) rfl<|Ap<|bG (fun hle=>k3 (fun h=>FQ) _ c.tail) fun F=>W _ c fun _=>FQ
 have outer:∀(f i:Nat) (h:AH),i+f=ps.length->(∀j,j<i->∀p,ps[j]?=some p->O2 p)->Hs G h L->Dd 4 1 [] Q [.bool true,pv,I ps.length,I i] h:=by
  intro f;induction f with
  |zero=>
   intro i h hi n c;refine bW<|bF<|aab<|k1 (fun p d=>?_) h c;have⟨j,H,hjp⟩:=List.getElem_of_mem d;exact n j FQ p (by rw[b0 H,hjp])
  |succ f R=>
   intro i h hi n c;have⟨p,d,_⟩:=qM (l:=ps) (i:=i) FQ;have⟨v,hvi,_⟩:=qM (l:=vi) (i:=i) FQ;refine bW (bF<|aae<|bW<|C1 (E6 (e:=3) FW y c) (x:=[v]) (by simp[hvi]) rfl<|A.sY (t i v p hvi d) ?_);rw[A.G0];refine inner i v p (kt d) (u p<|kt d) (t i v p hvi d) (fun h c z=>bW<|aad ?_) p.length 0 h FQ (fun b B Y=>FQ) c;have e1:((i:Int)+1)=((i+1:Nat):Int):=FQ
   refine R (i+1) h FQ (fun j H q O=>?_) c;by_cases e:j=i;rw[e,d] at O;cases O;exact z;exact n j FQ q O
 exact(outer ps.length 0 h FQ (fun j H=>FQ) c)
def iw {r:Value} {ws:FK} (J:ps.length<=1000) (u:∀p∈ps,p.length<=1000) (y:A.Zy G pv r ov vv ps ws os vs) (a:Hs G h L)
  (j:∀q,Hs G q L->Q (I<|1000*((2+Fk ps:Nat):Int)) q):JL 9 [.agg ⟨Bw Cf pv r ov vv⟩] h Q:=by
 obtain⟨⟨H,D,c,n⟩,_,_,_⟩:=y
 have lp:∀{k:Value->Prop},k (I ps.length)->cC (rB pv) k:=fun j=>A.sY c (by simpa [D] using j)
 have up:∀i,Fk (ps.take i)<=1000*i:=fun i=>by
  induction i with
  |zero=>exact og _
  |succ i g=>
   by_cases d:i<ps.length;rw[AP,b0 d];rw[Fk] at g ⊢;rw[l4,CF];have:=u ps[i] (AE d);simp only[Option.toList_some,k7,DJ,EN,List.sum_nil];omega;rw[fm FQ] at g ⊢;omega
 refine cW<|fB a fun F h a=>aA<|ai F a (v:=pv) rfl<|lp ?_
 have a:=a.tail
 have outer:∀(f i:Nat) (h:AH),i+f=ps.length->Hs G h L->Dd 9 1 [] Q [I ((2+Fk (ps.take i):Nat):Int),pv,I ps.length,I i] h:=by
  intro f;induction f with
  |zero=>
   intro i h d a;have z:=up i;rw[fm FQ] at z ⊢;exact bW (bF<|aab<|Hh FQ<|j h a)
  |succ f g=>
   intro i h d a;have⟨p,hp,_⟩:=qM (l:=ps) (i:=i) FQ;have⟨v,hvi,_⟩:=qM (l:=H) (i:=i) FQ;have B:=up<|i+1;have e2:Fk (ps.take<|i+1)=Fk (ps.take i)+p.length:=by
    rw[AP,hp];unfold Fk;rw[l4,CF];simp
   refine bW (bF<|aae<|bW<|C1 (E6 (e:=3) FW c a) (x:=[v]) (by simp[hvi]) rfl<|A.sY (n i v p hvi hp) ?_);rw[A.G0];have s:((i:Int)+1)=((i+1:Nat):Int):=FQ
   have t:((2+Fk (ps.take i):Nat):Int)+p.length=((2+Fk (ps.take<|i+1):Nat):Int):=FQ
   refine aad<|aad ?_;rw[s,t];exact g (i+1) h FQ a
 exact outer ps.length 0 h FQ a
end
abbrev cA:bQ:=⟨1,1,1,1,2,1,1⟩
abbrev zA:FJ:=[I 0,I 0,I 0,I 0]
abbrev iA:IW:=[⟨1,1,5,0⟩,⟨4,1,0,0⟩,⟨3,2,0,0⟩]
abbrev mA:bU:=MC.kT ⟨cA,[iA],[1],[1],[0,0,0,0]⟩
def MA:bU:=(mA.Bj cA 100 0).2
def aXc:(mA.Bj cA 100 0).2=MA:=rfl
def aAl:_root_.Go.Proofs.Z.iM=Go.Hm.iM:=FU
def aAk:_root_.Go.Proofs.Z.vV=Go.Is.vV:=FU
def aA3:_root_.Go.Proofs.Z.af=Go.Ct.oO:=FU
def aZ4:MA.over cA=true:=FU
def aYy:MA.eF=[⟨0,0,1,1,0,5,0⟩,⟨0,1,4,1,0,5,0⟩,⟨0,2,3,1,0,5,0⟩]:=FU
def aY1:(MA.aD 0).core=[I 0,I 5,I 5,I 0,I 3,I 1,.bool true]:=FU
def bBd {t:Nat}:C.pA t cA (0:Nat) (MA.bR 0)=JM t::(dk++[I 0,I 0,.bool false,.bool false,I 0,I 0,I 0,I 0,I 0,.bool false]):=FU
def bA4:(MA.bR 0).S 0=[(0,⟨4,1,(5,0)⟩)]:=FU
def bAa:Oj cA (MA.aT 0) a c=[.bool false,I 0,I 0,.bool false,I 1,I 1,.slice a 1 c]:=FU
def aU4:(MA.aT 0).bL=[(0,1)]:=FU
def bB1:(List.range<|pV cA.aF cA.bX.toNat 0).flatMap (fu cA.bX.toNat 0 fun i=>(MA.aJ i).2)=zA:=FU
def aWy:MA.bH.eU=[⟨1,false⟩]:=FU
def aPx:MA.cD 0 0=[]/\MA.cD 0 1=[]/\MA.cD 0 2=[]/\MA.cD 0 3=[]:=⟨FU,FU,FU,FU⟩
attribute [local irreducible] MA
def aTl {l:List (Nat×Nat×Nat)} (i:Nat) (a:i<12):((0,0,0)::(1,0,0)::(2,0,0)::(3,0,0)::(4,0,0)::(5,0,0)::(6,0,0)::(7,0,0)::(8,0,0)::(9,0,0)::(10,0,0)::(11,0,0)::l).getD i (0,0,0)=(i,0,0):=by
 have:i=0\/i=1\/i=2\/i=3\/i=4\/i=5\/i=6\/i=7\/i=8\/i=9\/i=10\/i=11:=FQ
 rcases this with rfl|rfl|rfl|rfl|rfl|rfl|rfl|rfl|rfl|rfl|rfl|rfl<;>rfl
variable {G:Bg} {h:AH}
def Rj {p:Nat} (d:Hs G h L) [k:dZ (rT cA p) L [] L']:∃b:Bool,∃v,Std Pr h (p,0,0) [I 2,v]/\∀σ,Rcs σ (lnV b) [I 2,v]:=by
 obtain⟨⟨a,c⟩,d⟩:=(k.of d).Cc;have d:Hs G h (aK p 0 [I 2,.slice a 0 c]::eC 9 174 a c (0,[])::L'):=d.A7;refine(aHb (W:=9) (e:=174) (a:=a) (cap:=c) (cs:=[]) d).elim (fun⟨f,e2⟩=>?_) fun⟨g,f⟩=>?_;subst f e2;exact⟨true,.slice none 0 0,yN (b:=p) (o:=0) (c:=[I 2,.slice none 0 0]) d Nat.two_pos,fun σ=>⟨rfl,rfl,trivial⟩⟩;subst f;exact⟨false,.slice (some g) 0 c,yN (b:=p) (o:=0) (c:=[I 2,.slice (some g) 0 c]) d Nat.two_pos,fun σ=>⟨rfl,⟨_,_,rfl⟩,trivial⟩⟩
theorem aS5 {a1 a2 a3 a4 a5:Addr} (hG:Gb G) (hg:Ob G 1 Go.Is.vV) (f:Hs G h (bY G cA m MA::eC 1 53 (some a1) 1 (1,[.slice (some a5) 3 3])::eC 1 3 (some a2) 1 (1,[I 1])::eC 1 3 (some a3) 1 (1,[I 1])::eC 1 3 (some a4) 4 (4,zA)::eC 4 55 (some a5) 3 (3,prA)::L)):
  ∃a b c d σ E Z,K9 Pr 12 σ (LA a b c d) E Z h/\σ 12=(m,0,0)/\Rcs σ cH (Bw cA (.slice (some a1) 1 1) (.slice (some a2) 1 1) (.slice (some a3) 1 1)<|.slice (some a4) 4 4):=by
 obtain⟨⟨lc,lk,lq,ac,ak,aq,al,cc,ck,cq,cl,A,B,fb⟩,⟨h1,h2,h3⟩,f⟩:=dH f
 obtain⟨v,rfl⟩:=CC.1<|show lc.length=1 from h1
 obtain⟨x,rfl⟩:=CC.1<|show lk.length=1 from h2
 obtain⟨q0,rfl⟩:=CC.1<|show lq.length=1 from h3
 have f:Hs G h (rA 0 v (MA.aD 0)::_):=jH (R:=yP) (l:=[v]) (i:=0) Fe f
 obtain⟨⟨ap,cp⟩,f⟩:=f.Cc
 have f:Hs G h (aK v 0 (qI 0 (MA.aD 0) ap cp)::dv ap cp (MA.aD 0).prog::_):=f.A7
 have f:Hs G h (C.lR G x cA (0:Nat) (MA.bR 0)::_):=jH (R:=uO G cA) (l:=[x]) (i:=0) Fe f
 obtain⟨t,f⟩:=C.pZ f
 obtain⟨s,u,cs,f⟩:=C.Tq<|f.bE<|C.mD G t cA.ways.toNat cA.aU.toNat (MA.bR 0).S
 have f:Hs G h (C.dL s u ((MA.bR 0).S 0)::_):=(f.bE<|fH cA.aU.toNat fun i=>C.dL s (u+i*1)<|(MA.bR 0).S i).pI 0 FV
 rw[bA4] at f
 obtain⟨⟨F,J⟩,f⟩:=f.Cc
 have f:Hs G h (aK s u [.slice F 1 J]::eC 5 256 F J (1,[I 0,I 4,I 1,I 5,I 0])::_):=f.A7
 have f:=Hs.oG (W:=1) (n:=1) (f.dC (aK s u [.slice F 1 J])<|gQ G 1 253 (some ⟨s,u,none⟩) cs cA.aU.toNat s u) rfl rfl
 have f:Hs G h (oY q0 cA (MA.aT 0)::_):=jH (R:=uL cA) (l:=[q0]) (i:=0) Fe f
 obtain⟨⟨fa,fc⟩,f⟩:=f.Cc
 rw[bAa,aU4] at f
 have f:Hs G h (aK q0 0 [.bool false,I 0,I 0,.bool false,I 1,I 1,.slice fa 1 fc]::eC 2 266 fa fc (1,[I 0,I 1])::_):=f.A7
 obtain⟨D,hbb,hbo,hcp,f⟩:=H.rH<|f.bE<|H.jG G A cA MA.aJ
 obtain⟨k,q,bc,f⟩:=Af<|f.bE<|gK G cA.aF D cA fun i=>(MA.aJ i).2
 have f:Hs G h (jZ cA.aF cA.bX.toNat k q 0 (fun i=>(MA.aJ i).2)::_):=(f.bE<|fH cA.bX.toNat fun i=>jZ cA.aF cA.bX.toNat k (q+i*3) i fun i=>(MA.aJ i).2).pI 0 FV
 obtain⟨r,w,z,j,f⟩:=C5 f
 rw[bB1] at f
 have f:Hs G h (aK k q [I r,I w,.slice z 2 j]::eC 2 152 z j (2,zA)::_):=f
 have f:=Hs.oG (W:=3) (n:=1) (f.dC (aK k q [I r,I w,.slice z 2 j])<|gQ G 3 205 (some ⟨k,q,none⟩) bc cA.bX.toNat k q) rfl rfl
 obtain⟨y,bm,f⟩:=oM<|f.bE<|jL cA B MA.bH
 rw[aWy] at f
 obtain⟨⟨ta,tc⟩,f⟩:=(f.bE<|lZ y [⟨1,false⟩]).Cc
 have f:Hs G h (aK y 0 [.slice ta 1 tc]::eC 2 165 ta tc (1,[I 1,.bool false])::_):=f.A7
 obtain⟨pl,f⟩:=Ds<|f.bE<|sI cA fb MA.cD
 have f:Hs G h ([rT cA (pl 0)<|MA.cD 0 0,rT cA (pl 1)<|MA.cD 0 1,rT cA (pl 2)<|MA.cD 0 2,rT cA (pl 3)<|MA.cD 0 3]++_):=(f.bE<|fH (4*cA.aB.toNat)<|vU cA pl MA.cD).fL
 rw[aPx.1,aPx.2.1,aPx.2.2.1,aPx.2.2.2,aYy] at f
 simp only[gg,hT] at f
 obtain⟨v0,w0,s19,r19⟩:=Rj (p:=pl 0) f
 obtain⟨v1,w1,s20,r20⟩:=Rj (p:=pl 1) f
 obtain⟨v2,w2,s21,r21⟩:=Rj (p:=pl 2) f
 obtain⟨v3,w3,s22,r22⟩:=Rj (p:=pl 3) f
 obtain⟨b1,o1,p1,rfl,rfl,s1⟩:=aAs (P:=Pr) (enc:=pE) (W:=1) (e:=121) (a:=ac) (cap:=cc) (l:=[v]) f (EW _) FU
 obtain⟨b2,o2,p2,rfl,rfl,s2⟩:=aAs (P:=Pr) (enc:=pE) (W:=1) (e:=124) (a:=ak) (cap:=ck) (l:=[x]) f (EW _) FU
 obtain⟨b3,o3,p3,rfl,rfl,s3⟩:=aAs (P:=Pr) (enc:=pE) (W:=1) (e:=127) (a:=aq) (cap:=cq) (l:=[q0]) f (EW _) FU
 obtain⟨b7,o7,p7,e7,rfl,s7⟩:=sF (P:=Pr) (W:=1) (e:=253) (a:=some ⟨s,u,none⟩) (cap:=cs) (n:=1) f FV FU
 cases e7
 obtain⟨b8,o8,p8,rfl,rfl,s8⟩:=sF (P:=Pr) (W:=5) (e:=256) (a:=F) (cap:=J) (n:=1) f FV FU
 obtain⟨K,κ,χ,rfl,rfl,s10⟩:=sF (P:=Pr) (W:=2) (e:=266) (a:=fa) (cap:=fc) (n:=1) f FV FU
 obtain⟨b13,o13,ψ,δ,rfl,s13⟩:=sF (P:=Pr) (W:=3) (e:=205) (a:=some ⟨k,q,none⟩) (cap:=bc) (n:=1) f FV FU
 cases δ
 obtain⟨O,μ,ω,rfl,rfl,s14⟩:=sF (P:=Pr) (W:=2) (e:=152) (a:=z) (cap:=j) (n:=2) f FV FU
 obtain⟨U,ν,p17,rfl,rfl,s17⟩:=sF (P:=Pr) (W:=2) (e:=165) (a:=ta) (cap:=tc) (n:=1) f FV FU
 obtain⟨V,ξ,p23,rfl,rfl,s23⟩:=aAs (P:=Pr) (enc:=Ev.enc) (W:=7) (e:=47) (a:=al) (cap:=cl) (l:=[⟨0,0,1,1,0,5,0⟩,⟨0,1,4,1,0,5,0⟩,⟨0,2,3,1,0,5,0⟩]) f (EW _) FU
 obtain⟨X,ο,p24,ε,q24,s24⟩:=sF (P:=Pr) (W:=1) (e:=53) (a:=some a1) (cap:=1) (n:=1) f FV FU
 obtain rfl:p24=0:=FQ
 cases ε
 obtain⟨α,τ,p26,η,q26,s26⟩:=sF (P:=Pr) (W:=1) (e:=3) (a:=some a2) (cap:=1) (n:=1) f FV FU
 obtain rfl:p26=0:=FQ
 cases η
 obtain⟨β,υ,p27,θ,q27,s27⟩:=sF (P:=Pr) (W:=1) (e:=3) (a:=some a3) (cap:=1) (n:=1) f FV FU
 obtain rfl:p27=0:=FQ
 cases θ
 obtain⟨γ,φ,p28,ι,q28,s28⟩:=sF (P:=Pr) (W:=1) (e:=3) (a:=some a4) (cap:=4) (n:=4) f FV FU
 obtain rfl:p28=0:=FQ
 cases ι
 obtain⟨Y,π,p25,ζ,q25,s25⟩:=sF (P:=Pr) (W:=4) (e:=55) (a:=some a5) (cap:=3) (n:=3) f FV FU
 obtain rfl:p25=0:=FQ
 cases ζ
 have s0:Std Pr h (m,0,0) _:=yN (b:=m) (o:=0) f FY
 have s4:Std Pr h (v,0,0) _:=yN (b:=v) (o:=0) f FY
 have s5:Std Pr h (x,0,0) _:=yN (b:=x) (o:=0) f FY
 have s6:Std Pr h (t,0,0) _:=yN (b:=t) (o:=0) f FY
 have s9:Std Pr h (q0,0,0) _:=yN (b:=q0) (o:=0) f FY
 have s11:Std Pr h (A,0,0) _:=yN (b:=A) (o:=0) f FY
 have s12:Std Pr h (D,0,0) _:=yN (b:=D) (o:=0) f FY
 have s15:Std Pr h (B,0,0) _:=yN (b:=B) (o:=0) f FY
 have s16:Std Pr h (y,0,0) _:=yN (b:=y) (o:=0) f FY
 have s18:Std Pr h (fb,0,0) _:=yN (b:=fb) (o:=0) f FY
 have l0:Ob G 0 _root_.Go.Proofs.Z.iM:=aAl▸hG.Nq
 have l1:Ob G 1 _root_.Go.Proofs.Z.vV:=aAk▸hg
 have l6:Ob G 6 _root_.Go.Proofs.Z.af:=aA3▸hG.iU
 refine⟨v0,v1,v2,v3,_,_,_,Zn (P:=Pr) (g:=12) (sl:=[(0,0,0),(1,0,0),(2,0,0),(3,0,0),(4,0,0),(5,0,0),(6,0,0),(7,0,0),(8,0,0),(9,0,0),(10,0,0),(11,0,0),(m,0,0),(b1,o1,p1),(b2,o2,p2),(b3,o3,p3),(v,0,0),(x,0,0),(t,0,0),(s,u,p7),(b8,o8,p8),(q0,0,0),(K,κ,χ),(A,0,0),(D,0,0),(k,q,ψ),(O,μ,ω),(B,0,0),(y,0,0),(U,ν,p17),(fb,0,0),(pl 0,0,0),(pl 1,0,0),(pl 2,0,0),(pl 3,0,0),(V,ξ,p23),(X,ο,0),(Y,π,0),(α,τ,0),(β,υ,0),(γ,φ,0)])
  ⟨Mj f l0 ?_,Mj f l1 ?_,Mj f l6 ?_,s0 ?_,s1 ?_,s2 ?_,s3 ?_,s4<|by unfold qI;rw[aY1];exact⟨rfl,rfl,rfl,rfl,rfl,rfl,rfl,rfl,trivial,trivial⟩,s5<|by rw[bBd];repeat' first|exact trivial|exact rfl|refine⟨?_,?_⟩,s6 ?_,s7 ?_,s8 ?_,s9 ?_,s10 ?_,s11 ?_,s12 ?_,s13 ?_,s14 ?_,s15 ?_,s16 ?_,s17 ?_,s18 ?_,s19<|r19 _,s20<|r20 _,s21<|r21 _,s22<|r22 _,s23 ?_,s24 ?_,s25 ?_,s26 ?_,s27 ?_,s28 ?_,trivial⟩ (by cases v0<;>cases v1<;>cases v2<;>cases v3<;>kernel_rfl) ⟨IA,by show 12<=41;decide⟩ aTl,rfl,?_⟩
 all_goals
  repeat' first|exact trivial|exact rfl|refine⟨?_,?_⟩
end Go.Proofs.Z
end
variable {l:FJ} {t:Nat->Value} {W:World}
namespace Go.Proofs.Z
open Go.Hm Go.Is Go.At Go.Mc Go.RowKit
def aYn:_root_.Go.Proofs.Z.aLs=Go.Nt.El:=FU
abbrev i7:List (Option IntKind):=[some .i64,some .i64,some .i64,some .i64,some .i64,some .i64,some .i64]
abbrev i4:List (Option IntKind):=[some .i64,some .i64,some .i64,some .i64]
abbrev i1:List (Option IntKind):=[some .i64]
def aOk:yH Tryz.prog 8 23=some i7:=FU
def aPe:yH Tryz.prog 8 55=some i4:=FU
def Z0:yH Tryz.prog 8 3=some i1:=FU
def aKg:Tryz.prog.cellsOf 55=i4.length:=FU
def Si:Tryz.prog.cellsOf 3=i1.length:=FU
def aHh:Tryz.prog.cellsOf 23=7:=FU
def Zw:Tryz.prog.cellsOf 25=1:=FU
def aH1:Tryz.prog.cellsOf 53=1:=FU
def aIp:Tryz.prog.cellsOf 24=1:=FU
def aEo:Tryz.prog.cellsOf 27=11:=FU
def aGw (r:rC i7 l):∃a b c d e f g:Int,l=[I a,I b,I c,I d,I e,I f,I g]:=by
 obtain⟨a,l1,i,s⟩:=iQ r;obtain⟨b,A,e2,t⟩:=iQ s;obtain⟨c,l3,j,u⟩:=iQ t;obtain⟨d,B,k,v⟩:=iQ u;obtain⟨e,D,n,x⟩:=iQ v;obtain⟨f,F,o,y⟩:=iQ x;obtain⟨g,H,p,z⟩:=iQ y;have q:=Hf z;subst q p o n k j e2 i;exact⟨a,b,c,d,e,f,g,rfl⟩
def aR5 (j:rC i4 l):∃x:iW,l=x.enc/\True:=by
 obtain⟨a,l1,e,k⟩:=iQ j;obtain⟨b,q,e2,n⟩:=iQ k;obtain⟨c,l3,f,o⟩:=iQ n;obtain⟨d,r,g,p⟩:=iQ o;have i:=Hf p;subst i g f e2 e;exact⟨⟨a,b,c,d⟩,rfl,trivial⟩
def aV1 (c:rC i1 l):∃x:Int,l=[I x]/\True:=by
 obtain⟨a,l1,b,d⟩:=iQ c;have e2:=Hf d;subst e2 b;exact⟨a,rfl,trivial⟩
def aTy (h:l.length=11) {a b c d:Value} (j:l[7]?=some a) (k:l[8]?=some b) (n:l[9]?=some c) (f:l[10]?=some d):l=l.take 7++[a,b,c,d]:=by
 apply ri;intro i;by_cases o:i<7;rw[tb FX,AV o];rw[p4 FX];have e:(l.take 7).length=7:=FX
 rw[e];by_cases g:i<11;have:i=7\/i=8\/i=9\/i=10:=FQ
 rcases this with rfl|rfl|rfl|rfl;exact j;exact k;exact n;exact f;rw[sr FQ,sr FX]
set_option maxRecDepth 100000 in
def aDv {H:Type} {enc:TypeId×Value->H} {W:World} {base:Nat} {v:Value} {d:DataW H} {p:List MemPlace} (I:Value.okWide Tryz.prog W .any base 27 v) (h:DataW.Trod enc Tryz.prog W 0 (fun _=>true) true 27 v d p):
  ∃(C:bQ) (q:FM) (k u:Nat) (s:FM) (B cW:Nat) (o:FM) (z t:Nat) (r:FM) (A x:Nat),v= .agg ⟨C.enc++[.slice q k u,.slice s B cW,.slice o z t,.slice r A x]⟩/\k<=maxLen/\Nh i4 W q k u/\qO i1 W s B cW/\qO i1 W o z t/\qO i1 W r A x:=by
 have j:=Tryz.underlying27
 obtain⟨l,rfl,J⟩:=aId j I
 rw[aEo] at J
 have y:=U5 (i:=0) (n:=8) j rfl aOk h
 obtain⟨q,k,u,R,hm,hP⟩:=Tc (i:=1) (n:=8) j rfl Tryz.underlying24 Tryz.underlying53 aIp aH1 aPe aKg FV h
 obtain⟨s,B,cW,U,hW⟩:=Cp (i:=2) (n:=8) j rfl Tryz.underlying25 Zw Z0 Si FV h
 obtain⟨o,z,t,V,X⟩:=Cp (i:=3) (n:=8) j rfl Tryz.underlying25 Zw Z0 Si FV h
 obtain⟨r,A,x,F,Y⟩:=Cp (i:=4) (n:=8) j rfl Tryz.underlying25 Zw Z0 Si FV h
 have e:=aTy J R U V F
 have y:rC i7 ((l.drop 0).take<|Tryz.prog.cellsOf 23):=y
 rw[aHh,ll] at y
 obtain⟨a,b,c,K,O,f,g,D⟩:=aGw y
 rw[D] at e
 exact⟨⟨a,b,c,K,O,f,g⟩,q,k,u,s,B,cW,o,z,t,r,A,x,GZ,hm,hP,hW,X,Y⟩
def aZ0:yH Tryz.prog 8 28=some [some .i64,some .i64,some .i64,some .i64,some .i64]:=FU
theorem aCt {H:Type} {enc:TypeId×Value->H} {base:Nat} {v:Value} {d:DataW H} {p:List MemPlace} (f:Value.okWide Tryz.prog W .any base 28 v) (h:DataW.Trod enc Tryz.prog W 0 (fun _=>true) true 28 v d p):∃a b c d e:Int,v= .agg ⟨[I a,I b,I c,I d,I e]⟩:=by
 simp only[Value.okWide,Tryz.underlying28] at f;obtain⟨⟨l⟩,rfl,_⟩:=f;obtain⟨fuel,g⟩:=h;have o:rC _ l:=Ny 8 aZ0 g;obtain⟨a,l1,i,q⟩:=iQ o;obtain⟨b,x,e2,r⟩:=iQ q;obtain⟨c,l3,j,s⟩:=iQ r;obtain⟨d,y,k,t⟩:=iQ s;obtain⟨e,z,n,u⟩:=iQ t;exact⟨a,b,c,d,e,by rw[i,e2,j,k,n,Hf u]⟩
def Zd {at':Nat->FJ} (a:∀i,i<n->rC i1 (at' i)):∃l:FK,l.length=n/\∀G v,zE G 1 v n at'->A.Qh G v l:=by
 obtain⟨l,c,_,k⟩:=Jz (W:=1) (f:=fun x:Int=>[I x]) (R:=fun _=>True) fun i b=>aV1<|a i b;exact⟨l,c,fun G v d=>k G v d⟩
def aPc {at':Nat->FJ} (a:∀i,i<n->rC i4 (at' i)):∃l:IW,l.length=n/\∀G v,zE G 4 v n at'->A.Y8 G v l:=by
 obtain⟨l,c,_,k⟩:=Jz (W:=4) (f:=iW.enc) (R:=fun _=>True) fun i b=>aR5<|a i b;exact⟨l,c,fun G v d=>k G v d⟩
def aJf {F:Nat} {len cap:Nat} {r:OB} {rs:JJ} {vs:FJ} {ns:FL} {at':Nat->Nat->FJ} (d:aYf Pr W i4 F a len cap r rs t vs ns at'):
  ∃u:List (IW),u.length=len/\(∀p∈u,p.length<=maxLen)/\∀(G:Bg) k,k<G.base->G.old k=r.1->(∀i x,rs[i]?=some x->F+i<G.base/\G.old (F+i)=x.1)->
   ∃y:FJ,y.length=u.length/\zE G 1 (t k) (y.map fun x=>[x]).length (fun i=>(y.map fun x=>[x]).getD i [])/\∀(i:Nat) (v:Value) (p:IW),y[i]?=some v->u[i]?=some p->A.Y8 G v p:=by
 have f:∀i,∃l:IW,l.length<=maxLen/\∀n,ns[i]?=some n->∀G v,zE G 4 v n (at' i)->A.Y8 G v l:=fun i=>by
  cases h:ns[i]? with
  |none=>exact⟨[],og _,fun n d=>by cases d⟩
  |some n=>
   obtain⟨l,hl,k⟩:=aPc<|d.bBv i n h;exact⟨l,by have:=d.nl i n h;omega,fun n' B=>by cases B;exact k⟩
 refine⟨(List.range len).map fun i=>(f i).choose,FW,fun p s=>?_,fun G k X U g=>?_⟩
 .obtain⟨i,_,rfl⟩:=gk.1 s;exact(f i).choose_spec.1
 obtain⟨Y,_,o2⟩:=d.old G k X U g
 refine⟨vs,by simp[d.lvs],?_,fun i v p I s=>?_⟩
 .rw[k6,d.lvs];obtain⟨a,c,e,V⟩:=Y;refine⟨a,c,e,fun i H=>?_⟩;obtain⟨b,o,cells,J,K,O,R⟩:=V i H;refine⟨b,o,cells,J,K,O.trans ?_,R⟩;have z:i<vs.length:=by rw[d.lvs];exact H
  simp[aP,b0 z]
 .have j:i<len:=by have:=(ew.1 I).1;rw[d.lvs] at this;exact this
  have D:p=(f i).choose:=by
   rw[k9,qv j] at s;simpa using s.symm
  subst D
  have q:ns[i]?=some (ns[i]'(by rw[d.cD];exact j)):=b0 _
  exact(f i).choose_spec.2 _ q G v (o2 i v _ I q).1
def aN4:Tryz.prog.cellsOf 38=i4.length:=FU
def aVu (e:rC i4 l):∃x:Do,l=x.enc/\True:=by
 obtain⟨a,b,c,d,rfl⟩:=aXw e;exact⟨⟨a,b,c,d⟩,rfl,trivial⟩
def aPi {at':Nat->FJ} (a:∀i,i<n->rC i4 (at' i)):∃l:IY,l.length=n/\∀G v,zE G 4 v n at'->aEs G v l:=by
 obtain⟨l,c,_,k⟩:=Jz (W:=4) (f:=Do.enc) (R:=fun _=>True) fun i b=>aVu<|a i b;exact⟨l,c,fun G v d=>k G v d⟩
def sf (hL:Gl W) {C:bQ} {J U I O H:FM} {F Y lW cW lO X lV cV lL V:Nat} (hm:F<=maxLen) (hP:Nh i4 W J F Y) (hW:qO i1 W U lW cW) (hO:qO i1 W I lO X) (hV:qO i1 W O lV cV) (hE:qO i4 W H lL V) {f:FuncId}
  (mk:Value->Value->FJ) (β:∀ρ c c' d d',bB ρ c c'->bB ρ d d'->bP ρ (mk c d) (mk c' d'))
  (γ:∀(G:Bg) (h:AH) (pv wv ov vv lv:Value) (ps:List (IW)) (ws os vs:FK) (l:IY),ps.length<=9223372036854775807->(∀p∈ps,p.length<=9223372036854775807)->Gb G->Ob G 1 Go.Is.vV->A.Zy G pv wv ov vv ps ws os vs->aEs G lv l->Hs G h []->JL f (mk (.agg ⟨Bw C pv wv ov vv⟩) lv) h fun v _=>v= .bool true):
  Calls Pr f ⟨mk (.agg ⟨C.enc++[.slice J F Y,.slice U lW cW,.slice I lO X,.slice O lV cV]⟩)<|.slice H lL V⟩ W fun e W'=>e= .returned (.bool true)/\Below W.heap.size W W':=by
 obtain⟨B,tw,bw,vw,φ,fw,ow⟩:=Gu Pr hW
 obtain⟨ro,to,bo,vo,π,fo,oo⟩:=Gu Pr hO
 obtain⟨rv,tv,bv,ν,υ,fv,μ⟩:=Gu Pr hV
 obtain⟨rl,tl,bl,vl,ο,fl,ol⟩:=Gu Pr hE
 obtain⟨rp,j,tp,vs,ns,τ,D⟩:=aKa Pr 17 hP
 obtain⟨κ,ω,kw⟩:=Zd fw
 obtain⟨ι,χ,ko⟩:=Zd fo
 obtain⟨lvs,ψ,kv⟩:=Zd fv
 obtain⟨le,hle,ke⟩:=aPi fl
 obtain⟨ps,η,ε,kp⟩:=aJf D
 have α:=hL
 have h4:=zH hL
 obtain⟨⟨n,z0,h0⟩,⟨q,t,h1⟩,⟨e2,z2,h2⟩,⟨r,z3,h3⟩,_⟩:=hL
 let R:JJ:=B::ro::rv::rl::rp::j
 have hR:∀i x,j[i]?=some x->R[5+i]?=some x:=fun i x a=>by
  rw[D0];exact a
 have aMn:Y1 Pr (12+R.length) (Px 12 (glM n z0 q t e2 z2 r z3) R) (Ju 12 R) W:=aC2 IA h4 (aZ2 h0 h1 h2 h3) (fun x a=>by
  rcases e6.1 a with rfl|a;exact bw.at' _;rcases e6.1 a with rfl|a;exact bo.at' _;rcases e6.1 a with rfl|a;exact bv.at' _;rcases e6.1 a with rfl|a;exact bl.at' _;rcases e6.1 a with rfl|a;exact D.out _ fun i y hy=>by
   have:=Dc (g:=12)<|hR i y hy;rwa [show 12+(5+i)=17+i by omega] at this
  exact(D.ok x a).at' _)
 have ξ:R.length=5+j.length:=by show j.length+1+1+1+1+1=_;omega
 let G:Bg:=⟨12+R.length,Px 12 (glM n z0 q t e2 z2 r z3) R,12+R.length⟩
 have s:∀i x,R[i]?=some x->12+i<G.base/\G.old (12+i)=x.1:=fun i x a=>⟨by have:=(ew.1 a).1;show 12+i<12+R.length;omega,aJh a⟩
 have gw:=s 0 B rfl
 have go:=s 1 ro rfl
 have gv:=s 2 rv rfl
 have gl:=s 3 rl rfl
 have gp:=s 4 rp rfl
 obtain⟨vi,θ,ζ,δ⟩:=kp G 16 gp.1 gp.2 (fun i x a=>by
  have:=s (5+i) x<|hR i x a;rwa [show 12+(5+i)=17+i by omega] at this)
 have gb:∀(b:Nat) (l:FJ) (e:TypeId) (z:Nat×Nat),b<12->glM n z0 q t e2 z2 r z3 b=some (.cells l e z true)->Ob G b l:=fun b l e z hb hg=>⟨by show b<12+R.length;omega,e,z,true,(aLx (g:=12) (i:=b) (gl:=glM n z0 q t e2 z2 r z3) (rs:=R) hb).trans hg⟩
 have ok:=γ G (Go.Ab.A3 G.base G.old) (tp 16) (tw 12) (to 13) (tv 14) (tl 15) ps κ ι lvs le (by rw[η];unfold maxLen at hm;omega) (fun p hp=>by have:=ε p hp;unfold maxLen at this;omega)
  ⟨by first|exact gb 0 _ n z0 FQ rfl|(rw[<-aAl];exact gb 0 _ n z0 FQ rfl),by first|exact gb 3 _ e2 z2 FQ rfl|(rw[<-aYn];exact gb 3 _ e2 z2 FQ rfl),by first|exact gb 6 _ r z3 FQ rfl|(rw[<-aA3];exact gb 6 _ r z3 FQ rfl)⟩ (by first|exact gb 1 _ q t FQ rfl|(rw[<-aAk];exact gb 1 _ q t FQ rfl))
  ⟨⟨vi,θ,ζ,δ⟩,kw G _ (ow G 12 gw.1 gw.2).1,ko G _ (oo G 13 go.1 go.2).1,kv G _ (μ G 14 gv.1 gv.2).1⟩ (ke G _ (ol G 15 gl.1 gl.2).1) aIi
 have u:bP (Ju 12 R) (mk (.agg ⟨Bw C (tp 16) (tw 12) (to 13)<|tv 14⟩)<|tl 15) (mk (.agg ⟨C.enc++[.slice J F Y,.slice U lW cW,.slice I lO X,.slice O lV cV]⟩)<|.slice H lL V):=by
  refine β _ _ _ _ _ ?_<|vl _ 15<|Dc (g:=12) (i:=3) (rs:=R) rfl;simp only[bB];exact⟨_,bP.append (Am _ HR)<|bP.cons (D.rel _ 16<|Dc (g:=12) (i:=4) (rs:=R) rfl)<|bP.cons (vw _ 12<|Dc (g:=12) (i:=0) (rs:=R) rfl)<|bP.cons (vo _ 13<|Dc (g:=12) (i:=1) (rs:=R) rfl)<|bP.cons (ν _ 14<|Dc (g:=12) (i:=2) (rs:=R) rfl) bP.nil,rfl⟩
 have:=U1 (bBm W.heap.size h4) α aMn u ok
 intro cs
 obtain⟨e,w',fr,⟨ρ',o,h',v',he,k,hq,_,hb⟩,a⟩:=this cs
 rw[hq] at k
 simp only[bB] at k
 exact⟨e,w',fr,⟨by rw[he,k],hb⟩,a⟩
end Go.Proofs.Z
namespace Go.Proofs.Z
open Go.Hm Go.At Go.Mc Go.Ct Go.Nt Go.Is
def aUr {a n:Ev} (c:k (.bool<|decide<|a≠n)) {b:Bool} (hc:b=true:=by kernel_rfl):Wj b [0,0,0,0,0,0,0] .neq (.agg ⟨a.enc⟩) (.agg ⟨n.enc⟩) k:=by
 refine⟨hc,_,?_,c⟩;cases a;cases n;simp[Wi,xE,jy,eqn,Ev.enc];rw[Bool.eq_iff_iff];simp
attribute [local irreducible] cC Br vZ yU Ar Jj rJ Ce qL dj lQ sJ wV wJ vF rB A6 Yn Wh W3 Wi Wj gf qN tZ nJ mM Dv O9 pX Vx cn E2 Cl F3 ga zF yL oI jF eX dO
variable {P:Nat->IW}
variable {G:Bg} {h:AH} {Cf:bQ} {M:bU} {S:Nat->aQ} {A0:AM}
def Xz {a1 a2:FM} {d c2:Nat} {l:JG} (q:l.length<=2000) (b:Hs G h (Ij a1 d l::Ij a2 c2 l::L)) (o:∀g,Hs G g (Ij a1 d l::Ij a2 c2 l::L)->Q (.bool true) g):
  JL 12 [.slice a1 l.length d,.slice a2 l.length c2] h Q:=by
 have loop:∀f i h,i+f=l.length->Hs G h (Ij a1 d l::Ij a2 c2 l::L)->Dd 12 2 [] Q [.slice a1 l.length d,.slice a2 l.length c2,I i] h:=by
  intro f;induction f with
  |zero=>intro i h n b;exact bW (dB<|bF<|aab<|o h b)
  |succ f p=>
   intro i h n b;obtain⟨x,j,_⟩:=qM (l:=l) (i:=i) FQ;have k:((i:Int)+1)=((i+1:Nat):Int):=FQ
   refine bW<|dB<|bF<|aae<|bW<|bI b fun r h b=>yX (enc:=Ev.enc) (e:=47) (a:=a1) (c:=d) b FV FQ j ?_;refine yX (enc:=Ev.enc) (e:=47) (a:=a2) (c:=c2) b FV FQ j<|aUr<|bD FW ?_;refine bW<|aad ?_;rw[k];exact p (i+1) h FQ b.to
 exact cW<|dB<|dB<|bZ<|aab<|bW<|loop l.length 0 h FQ b
variable {ps:List (IW)}
def aB5 {e:Value} {ws:FK} (p:ps.length<=9223372036854775807) (hG:Gb G) (k:Ob G 1 vV) (d:A.Zy G pv e ov vv ps ws os vs) (a:Hs G h L)
  (g:∀c,Hs G c L->Q (.pointer none) c) (n:∀m c,Bf Cf ps ws os vs=0->ps.length<=6/\ws.length<=6/\os.length<=20/\vs.length<=80->Hs G c (bY G Cf m (MC.kT ⟨Cf,ps,ws,os,vs⟩)::L)->Q (JM m) c):JL 6 [.agg ⟨Bw Cf pv e ov vv⟩] h Q:=by
 refine cW<|fB (cs:=Bw Cf pv e ov vv) a fun i h a=>am i a (l:=Bw Cf pv e ov vv) rfl rfl ?_
 refine aUx p d a (fun j h a=>cZ<|fR<|gA<|bW ?_) fun h a=>cZ<|fR<|cY<|g _ a.tail
 refine am i a (l:=Bw Cf pv e ov vv) rfl rfl ?_
 refine zi (Cf:=Cf) FQ hG k d a (fun f h a=>aN rfl<|aN rfl<|bZ<|cS f<|g _ a.tail) fun f m h a=>?_
 exact aN rfl<|aN rfl<|bZ<|aab<|n m h f j a.to
abbrev qz (ps:List (IW)) (i:Nat):IW:=ps.getD i []
def aGx {ws:FK} (d:Bf Cf ps ws os vs=0) (e:∀p∈ps,O2 p):FE Cf (Ql Cf ps ws os vs) (iq ps ws) (qz ps) 0 (MC.kT ⟨Cf,ps,ws,os,vs⟩):=by
 obtain⟨hC,k,n,j,l,_,f,_⟩:=Fa d;have g:RX Cf (Ql Cf ps ws os vs) (MC.kT ⟨Cf,ps,ws,os,vs⟩) (At.tY uB vs 0):=RX.kT hC (by have:=hC.2.1;omega);have a:∀i:Nat,(i:Int)<Cf.aB->i<ps.length/\i<ws.length:=fun i b=>FQ
 refine FE.kT (c:=⟨Cf,ps,ws,os,vs⟩) d rfl (zh d) (fun i b=>⟨rfl,rfl,?_⟩) rfl (fun i b=>?_) ⟨_,g⟩ ⟨_,_,g⟩;show 0<=ws.getD i 0/\ws.getD i 0<=3;rw[aP,b0 (a i b).2];exact f _<|AE _;show O2 (ps.getD i []);rw[aP,b0 (a i b).1];exact e _<|AE _
def yh {lv j k o:Value} {l:IY} (hC:Cf.Ok) (hG:Gb G) (u:l.length<=200) (g:aEs G lv l) (r:∀N M' p,N<=400->FE Cf A0 S P N M'->Hs G p (bY G Cf m M'::L)->Dd 3 5 [] Q [j,k,JM m,o] p):
  ∀(f i:Nat) (M:bU) (h:AH),i+f=l.length->FE Cf A0 S P (2*i) M->Hs G h (bY G Cf m M::L)->Dd 3 3 [] Q [lv,j,k,JM m,o,I i] h:=by
 intro f
 induction f with
 |zero=>
  intro i M h q hA b
  exact bW (aT1 g<|bF<|aab<|r (2*i) M h FQ hA b)
 |succ f t=>
  intro i M h q hA b
  obtain⟨d,s,_⟩:=qM (l:=l) (i:=i) FQ
  have e:=hA.mC (d:=d) hC
  have b:=aPo g b
  refine bW<|aT1 g<|bF<|aae<|bW<|aOc b FV (aLk s)<|aZ (c:=d.enc) rfl<|eA (W:=4) (n:=1) (c:=1) b.tail rfl rfl rfl fun a h b=>?_
  exact vn (d:=d) (M:=M) hC hG hA.zs.all.inv FQ b fun h b=>aad<|t (i+1) _ h FQ e b
def X2 {ws:FK} {k:Value->AH->Prop} (z:Bf Cf ps ws os vs=0) (o:2<=Cf.eR) (g:Cf.aB=1) (hG:Gb G) (J:N<=400) (hF:FE Cf (Ql Cf ps ws os vs) (iq ps ws) (qz ps) N M) (e:Hs G h L) [O:dZ (bY G Cf m) L M L']
  (B:∀(M':bU) (n:Int) t,M'.eF=uY (Ql Cf ps ws os vs) 100->M'.eF.length<=100->Hs G t (bY G Cf m M'::L')->k (.tuple ⟨[I n,.bool true]⟩) t):JL 8 [JM m,I<|1000*((2+Fk ps:Nat):Int)] h k:=by
 obtain⟨hC,r,_,_,_,s,_,_⟩:=Fa z
 have b:∀p∈ps,p.length<=32:=fun p F=>A.Cw<|A.An s _ F
 have l:eZ (fun i=>(qz ps i).length) Cf.aB.toNat=Fk ps:=by rw[<-r];exact aI6
 have j:(qz ps 0).length<=32:=by
  show(ps.getD 0 []).length<=32;rw[aP,b0 FQ];exact b _<|AE _
 have y:Fk ps<=32:=by
  rw[<-l,g];simpa [eZ] using j
 have q:=hF.aWn hC
 rw[l] at q
 have v:(1000*((2+Fk ps:Nat):Int))=((1000*(2+Fk ps):Nat):Int):=FQ
 rw[v]
 refine ky (S:=iq ps ws) (most:=1000*(2+Fk ps)) hC hG hF.zs.all FQ e fun h e=>?_
 obtain⟨n,H,M',u,D,a,x,d⟩:=Yq hC o (f:=1000*(2+Fk ps)) (k:=0) hF FQ
 rw[u] at e ⊢
 simp only[d]
 have e2:=aPz hC a d g g FQ
 have c:=a.st.aMl a.zs.all.inv
 rw[l] at c
 exact B M' n h e2.symm FQ e
end Go.Proofs.Z
namespace Go.Proofs.Z
open Go.Hm Go.At Go.Mc
def aVs {g:FuncId} {a b:FO} (c:k (.bool false)):cC (biF .eql (.func (.func g) a b) .nilFunc) k:=⟨_,rfl,c⟩
attribute [local irreducible] cC Br vZ yU Ar Jj rJ Ce qL dj lQ sJ wV wJ vF rB A6 Yn Wh W3 Wi Wj gf qN tZ nJ mM Dv O9 pX Vx cn E2 Cl F3 ga zF yL oI jF eX dO
variable {G:Bg} {h:AH} {Cf:bQ} {M:bU}
abbrev evX (p:Nat) (e:Nat->Value) (d l:Nat) (done:JG):HP:=Cr fun x:FM×Nat=>sp [pD Pr 13 (qK 250) 20 e d l (.ready,none),aK p 0 [.slice x.1 done.length x.2],Ij x.1 x.2 done]
theorem U3 (k:M.eF.length<2000) (f:Hs G h L) [F:dZ (bY G Cf m) L M L'] (B:∀a c j,Hs G j (Ij a c M.eF::bY G Cf m M::L')->Q (.slice a M.eF.length c) j):JL 13 [JM m] h Q:=by
 obtain⟨y,D,f⟩:=dH<|F.of f;refine cW ?_;refine cW<|dN<|cY<|aC<|aA<|ai m f rfl ?_;refine cW<|fB f fun q h f=>?_;refine aVs<|cY<|bW<|cT f fun p h f=>nY f fun d h f=>?_;intro e u;refine rK f fun l h f=>xU rfl ?_;have f:=vC (enc:=Ev.enc) (e:=47) f;have f:Hs G h (veR q y.al y.cl M.eF::evX p e d l []::mk d ()::aK m 0 (gD Cf y M.eF.length)::ptc y.ac y.cc y.lc::r6 y.ak y.ck y.lk::rz y.aq y.cq y.lq::
  uZ yP y.lc M.aD::uZ (uO G Cf) y.lk M.bR::uZ (uL Cf) y.lq M.aT::H.jG G y.hb Cf M.aJ::jL Cf y.mb M.bH::sI Cf y.fb M.cD::L'):=by
  have f:=(f.dC (aK q 0 [.slice y.al M.eF.length y.cl])<|Ij y.al y.cl M.eF).F6
  have f:Hs G h (veR q y.al y.cl M.eF::_):=f
  have f:=(f.dV (pD Pr 13 (qK 250) 20 e d l (.ready,none)) (aK p 0 [.slice none 0 0])<|Ij none 0 []).Vy
  have f:=Hs.Cq (A:=fun x:FM×Nat=>sp [pD Pr 13 (qK 250) 20 e d l (.ready,none),aK p 0 [.slice x.1 ([]:JG).length x.2],Ij x.1 x.2 []]) (none,0) f
  exact f.to
 refine(bAg (q:=q) (a:=y.al) (c:=y.cl) (l:=M.eF) FQ).No (X:=fun done=>evX p e d l done) (Z:=fun _ _=>Dw False) f ?_ ?_ ?_
 .intro done x h T r f;have t:done.length<1999:=HC
  obtain⟨⟨a,c⟩,f⟩:=f.Cc;have f:=f.Fc;refine rW (yJ f) u<|cT f fun p1 h f=>an (b:=p1) f fun h f=>kV f fun h f=>ai p f rfl<|am p1 f (l:=x.enc) rfl rfl<|aZ (c:=x.enc) rfl<|eA (W:=7) (n:=1) (c:=1) f rfl rfl rfl fun I h f=>?_;have f:=sG (enc:=Ev.enc) (x:=x) f;refine Rs (l:=done) (v:=x) (a:=a) (c:=c) FQ f fun g i h f=>an (b:=p) f fun h f=>ai p f rfl<|dB<|fV<|bD FX<|lM f fun h f=> .inl ⟨rfl,?_⟩;have f:=(f.dV (pD Pr 13 (qK 250) 20 e d l (.ready,none)) (aK p 0 [.slice g (done++[x]).length i])<|Ij g i<|done++[x]).Vy;exact(Hs.Cq (A:=fun z:FM×Nat=>sp [pD Pr 13 (qK 250) 20 e d l (.ready,none),aK p 0 [.slice z.1 (done++[x]).length z.2],Ij z.1 z.2<|done++[x]]) (g,i) f).to
 intro v h f;obtain⟨⟨a,c⟩,f⟩:=(f.bE<|evX p e d l M.eF).Cc;have f:=f.Fc;have f:=(f.bE<|veR q y.al y.cl M.eF).A7;refine rD f fun h f=>rF<|ai p f rfl<|qQ f fun h f=>nU<|B a c _ ?_;exact(cB (m:=m) (x:=y) M D f).to
 .intro done x v h r f;obtain⟨s,_⟩:=(f.bE<|Dw False).z7;exact s.elim
end Go.Proofs.Z
section
attribute [local irreducible] cC Br vZ yU Ar Jj rJ Ce qL dj lQ sJ wV wJ vF rB A6 Yn Wh W3 Wi Wj gf qN tZ nJ mM Dv O9 pX Vx cn E2 Cl F3 ga zF yL oI jF eX dO
namespace Go.Proofs.Z.A
open Go.Hm Go.At Go.Is
variable {G:Bg} {h:AH}
variable {ps:List (IW)}
def aOr {C:bQ} {ws:FK} (h:Bf C ps ws os vs=0):(Ql C ps ws os vs).Ok:=by
 unfold Bf at h;split at h;cases h;rename_i hC;split at h;cases h;rename_i j;split at h;rename_i c;exact absurd h c;rename_i c;refine⟨show C.Ok by simpa using hC,fun i d=>?_,?_⟩;have b:i<ps.length:=by have:(i:Int)<C.aB:=d;omega
 have f:ps.getD i []∈ps:=by rw[aP,b0 b];exact AE _
 have a:=An (by simpa using c) _ f;have e:=Cw a;refine⟨show(0:Int)<=0 by decide,show(0:Int)<=32 by decide,rfl,e,fun x g=>?_⟩;unfold rI at a;rw[aaa] at a;exact tu _ _ a x g;show(os.length:Int)=C.aM;omega
end Go.Proofs.Z.A
namespace Go.Proofs.Z
open Go.Hm Go.At Go.Mc Go.Ct Go.Nt Go.Is
variable {G:Bg} {h:AH} {Cf:bQ}
def nz {Cd:bQ} {pm ma mb:Nat} {Ma Mb:bU} {l:JG} (H:Ob G 0 iM) (e:l.length<=100) (ha:Ma.eF=l) (hb:Mb.eF=l) (aw:∀{h:AH} {L:IU},Hs G h L->JL 5 [] h Q):
  ∀(f i:Nat) (Y:AM) (done:JG) (a:FM) (c:Nat) (h:AH),i+f=100->Y.Ok->done++uY Y f=l->Hs G h (Ij a c done::A.Wg G pm Y::bY G Cf ma Ma::bY G Cd mb Mb::L)->
   Dd 3 7 [] Q [JM ma,JM mb,JM pm,.slice a done.length c,I i] h:=by
 have sL:∀(a:FM) (c:Nat) (h:AH) (L:IU),Hs G h (Ij a c l::bY G Cf ma Ma::bY G Cd mb Mb::L)->JL 13 [JM ma] h fun v1 z=>JL 12 [v1,.slice a l.length c] z fun v2 q=>Br v2 (JL 13 [JM mb] q fun v3 B=>JL 12 [v3,.slice a l.length c] B fun v4 r=>Br v4 (JL 5 [] r Q)<|Q (.bool false) r) (Q (.bool false) q):=fun a c h L d=>by
  refine U3 (Cf:=Cf) (M:=Ma) (by rw[ha];omega) d fun a1 u h d=>?_;rw[ha] at d ⊢;refine Xz FQ (d.dC (Ij a1 u l)<|Ij a c l) fun h d=>gA (U3 (Cf:=Cd) (M:=Mb) (by rw[hb];omega) d fun k c2 h d=>?_);rw[hb] at d ⊢;exact Xz FQ (d.dC (Ij k c2 l)<|Ij a c l) fun h d=>gA<|aw d
 intro f
 induction f with
 |zero=>
  intro i Y done a c h F hA g d
  have:done=l:=by rw[<-g];simp[uY]
  subst this
  exact bW (bF<|aab<|sL a c h (A.Wg G pm Y::L) d.to)
 |succ f J=>
  intro i Y done a c h F hA g d
  have D:done.length<=100:=by rw[<-g] at e;simp at e;omega
  refine bW<|bF<|aae<|bW ?_
  refine A.aQm hA H d fun h d=>aN rfl<|aN rfl<|cT d fun p h d=>an (b:=p) d fun h d=>bZ<|bG (fun j=>?_) fun O=>bW ?_
  .rw[uY,bD2 j,kx] at g;subst g;exact sL a c h (A.Wg G pm (Y.step 0 false).1::L) d.to
  .rw[uY,aaa] at g;refine am p d (l:=(Y.step 0 false).2.1.enc) rfl rfl<|aZ (c:=(Y.step 0 false).2.1.enc) rfl<|eA (W:=7) (n:=1) (c:=1) d rfl rfl rfl fun k h d=>?_;have d:=sG (enc:=Ev.enc) (x:=(Y.step 0 false).2.1) d;refine Rs (l:=done) (v:=(Y.step 0 false).2.1) (a:=a) (c:=c) FQ d fun s t h d=>aad ?_;have y:((i:Int)+1)=((i+1:Nat):Int):=FQ
   rw[y]
   exact J (i+1) _ (done++[(Y.step 0 false).2.1]) s t h FQ (aNh hA _ _) (by rw[eh];exact g) d.to
variable {ps:List (IW)}
def pz {c lv:Value} {ws:FK} {l:IY} {s0 s1 s2 s3 s4:Int} (O:ps.length<=9223372036854775807) (R:∀p∈ps,p.length<=9223372036854775807) (hG:Gb G) (H:Ob G 1 vV) (d:A.Zy G pv c ov vv ps ws os vs) (V:aEs G lv l) (a:Hs G h L)
  (aw:∀{h:AH} {L:IU},Hs G h L->JL 5 [] h Q):JL 3 [.agg ⟨Bw Cf pv c ov vv⟩,.agg ⟨[I s0,I s1,I s2,I s3,I s4]⟩,lv] h Q:=by
 obtain⟨_,_,⟨_,_,W,_⟩,_⟩:=id d.ps
 obtain⟨_,_,e2,_⟩:=id d.ws
 obtain⟨_,_,X,_⟩:=id d.os
 obtain⟨_,_,Y,_⟩:=id d.vs
 have F:(Bw Cf pv c ov vv).all gU=true:=by rw[W,e2,X,Y];rfl
 let f:bQ:=⟨Cf.aB,Cf.aM,s0,s1,s4,s2,s3⟩
 refine cW<|fB (cs:=Bw Cf pv c ov vv) a fun i h a=>fB (cs:=[I s0,I s1,I s2,I s3,I s4]) a fun r h a=>am i a (l:=Bw Cf pv c ov vv) rfl rfl<|cT a fun g h a=>bN (b:=g) a rfl rfl rfl F fun h a=>?_
 refine fQ FQ FQ<|ai r a (v:=I s0) rfl<|aA<|aA<|ax (b:=g) (o:=0) a fun h a=>?_
 refine fQ FQ FQ<|ai r a (v:=I s1) rfl<|aA<|aA<|ax (b:=g) (o:=0) a fun h a=>?_
 refine fQ FQ FQ<|ai r a (v:=I s2) rfl<|aA<|aA<|ax (b:=g) (o:=0) a fun h a=>?_
 refine fQ FQ FQ<|ai r a (v:=I s3) rfl<|aA<|aA<|ax (b:=g) (o:=0) a fun h a=>?_
 refine fQ FQ FQ<|ai r a (v:=I s4) rfl<|aA<|aA<|ax (b:=g) (o:=0) a fun h a=>?_
 have a:Hs G h (aK g 0 (Bw f pv c ov vv)::aK r 0 [I s0,I s1,I s2,I s3,I s4]::aK i 0 (Bw Cf pv c ov vv)::L):=a
 have a:Hs G h (aK g 0 (Bw f pv c ov vv)::aK i 0 (Bw Cf pv c ov vv)::L):=a.to
 refine aA<|aA<|ai i a (v:=I Cf.aB) rfl<|bZ<|bG (fun _=>aw a) fun h1=>?_
 refine aA<|aA<|ai i a (v:=I Cf.eR) rfl<|bF<|bG (fun _=>aw a) fun α=>?_
 refine aA<|aA<|ai g a (v:=I s4) rfl<|bF<|bG (fun _=>aw a) fun β=>aT1 V<|qA<|bG (fun _=>aw a) fun hl=>?_
 refine am i a (l:=Bw Cf pv c ov vv) rfl rfl ?_
 refine qe O R d a (fun x h a=>cZ<|cY<|bW ?_) fun _ h a=>cZ<|gA<|aw a
 refine am i a (l:=Bw Cf pv c ov vv) rfl rfl ?_
 have q:∀{ha:Prop} (v:Value) (h:AH) (L1:IU) {k:Value->AH->Prop},Hs G h (aK g 0 (Bw f pv c ov vv)::L1)->(∀s,Hs G s (aK g 0 (Bw f pv c ov vv)::L1)->k (.pointer none) s)->(∀m s,Bf f ps ws os vs=0->Hs G s (bY G f m (MC.kT ⟨f,ps,ws,os,vs⟩)::aK g 0 (Bw f pv c ov vv)::L1)->k (JM m) s)->
   cC (yU h 11<|JM g) fun v2=>JL 6 [v2] h k:=fun v h L1 k a k0 hk=>
  am g a (l:=Bw f pv c ov vv) rfl rfl (aB5 (Cf:=f) O hG H d a k0 fun m h j _ a=>hk m h j a)
 refine aB5 O hG H d a (fun h a=>q (ha:=True) (.bool true) h _ a (fun h a=>Nc<|gA<|aw a) fun m h _ a=>Nc<|gA<|aw a) fun y h j hf a=>?_
 refine q (ha:=True) (.bool true) h (bY G Cf y (MC.kT ⟨Cf,ps,ws,os,vs⟩)::aK i 0 (Bw Cf pv c ov vv)::L) a.to (fun h a=>dN<|cY<|Nc<|gA<|aw a) fun q h t a=>?_
 refine dN<|cY<|dN<|cY<|bW ?_
 obtain⟨hC,_⟩:=Fa j
 refine yh (m:=y) (A0:=Ql Cf ps ws os vs) (P:=qz ps) (S:=iq ps ws) (L:=bY G f q (MC.kT ⟨f,ps,ws,os,vs⟩)::aK g 0 (Bw f pv c ov vv)::aK i 0 (Bw Cf pv c ov vv)::L) hC hG FQ V (fun N M h hN hF a=>?_) l.length 0 _ h FQ (aGx j x) a.to
 have u:∀p∈ps,p.length<=1000:=fun p hp=>by have:=A.Cw<|A.An (Fa j).2.2.2.2.2.1 _ hp;omega
 refine bW<|am i a (l:=Bw Cf pv c ov vv) rfl rfl<|iw FQ u d a fun h a=>?_
 refine X2 j FQ FQ hG hN hF a fun B n h U J a=>aN rfl<|aN rfl ?_
 refine am g a (l:=Bw f pv c ov vv) rfl rfl<|iw FQ u d a fun h a=>?_
 refine X2 t (show 2<=s4 by omega) (show Cf.aB=1 by omega) hG (og _) (aGx t x) a fun z n2 h eb γ a=>aN rfl<|aN rfl ?_
 refine aA<|am i a (l:=Cf.enc) rfl rfl<|aA<|ai i a (v:=pv) rfl<|aA<|ai i a (v:=c) rfl<|aA<|ai i a (v:=ov) rfl<|aA<|ai i a (v:=vv) rfl ?_
 refine A.aLa FQ hG.Nq H d a (fun e=>absurd j e) fun _ pm h a=>aN rfl<|aN rfl<|cZ<|cY<|cZ<|cY<|bZ<|aab<|dN<|cY<|bW ?_
 have ec:z.eF=uY (Ql Cf ps ws os vs) 100:=eb.trans<|S7 (A:=Ql Cf ps ws os vs) (D:=f) rfl rfl
 have a:Hs G h (Ij none 0 []::A.Wg G pm (Ql Cf ps ws os vs)::bY G f q z::bY G Cf y B::aK g 0 (Bw f pv c ov vv)::aK i 0 (Bw Cf pv c ov vv)::L):=vC a
 exact nz (Cf:=Cf) (Cd:=f) (pm:=pm) (ma:=y) (mb:=q) (Ma:=B) (Mb:=z) (L:=aK g 0 (Bw f pv c ov vv)::aK i 0 (Bw Cf pv c ov vv)::L) hG.Nq (by rw[<-U];exact J) U ec aw 100 0 _ [] none 0 h FQ (A.aOr j) rfl a.to
end Go.Proofs.Z
end
variable {f:Nat->FJ} {cs:FJ}
namespace Go.Proofs.Z
open Go.Hm Go.At Go.Mc Go.Ct Go.Nt Go.Is
def aWz (b:k (.bool true)) {a:Bool} (hc:a=true:=by kernel_rfl):Wj a [0,0] .eql (.agg ⟨[I 0,I 0]⟩) (.agg ⟨[I 0,I 0]⟩) k:=⟨hc,_,rfl,b⟩
attribute [local irreducible] cC Br vZ yU Ar Jj rJ Ce qL dj lQ sJ wV wJ vF rB A6 Yn Wh W3 Wi Wj gf qN tZ nJ mM Dv O9 pX Vx cn E2 Cl F3 ga zF yL oI jF eX dO
variable {G:Bg} {h:AH} {L1 L2 L3 L4 L5:IU}
def aZ3 (hG:Gb G) (b:Ob G 1 Go.Is.vV) (a:Hs G h L):∃σ E Z,K9 Pr 12 σ gls E Z h:=by
 have l0:Ob G 0 _root_.Go.Proofs.Z.iM:=aAl▸hG.Nq;have l1:Ob G 1 _root_.Go.Proofs.Z.vV:=aAk▸b;have c:Ob G 6 _root_.Go.Proofs.Z.af:=aA3▸hG.iU;refine⟨_,_,_,Zn (P:=Pr) (g:=12) (sl:=[(0,0,0),(1,0,0),(2,0,0),(3,0,0),(4,0,0),(5,0,0),(6,0,0),(7,0,0),(8,0,0),(9,0,0),(10,0,0),(11,0,0)])
  ⟨Mj a l0 ?_,Mj a l1 ?_,Mj a c ?_,trivial⟩ FU ⟨IA,FV⟩ aTl⟩
 all_goals
  repeat' first|exact trivial|exact rfl|refine⟨?_,?_⟩
def aZd (hG:Gb G) (i:Ob G 1 Go.Is.vV) (b:Hs G h (eC 2 152 (some ⟨n+3,0,none⟩) 2 (2,[I 0,I 0,I 0,I 0])::eC 2 165 (some ⟨n+2,0,none⟩) 1 (1,[I 1,.bool false])::eC 3 163 (some ⟨n+1,0,none⟩) 1 (1,[I 0,I 0,I 1])::eC 6 160 (some ⟨n,0,none⟩) 1 (1,[I 0,I 0,I 4,I 1,I 5,I 0])::L)):
  ∃σ E Z,K9 Pr 12 σ LB E Z h/\Rcs σ (aS 12) (aS n):=by
 have l0:Ob G 0 _root_.Go.Proofs.Z.iM:=aAl▸hG.Nq
 have l1:Ob G 1 _root_.Go.Proofs.Z.vV:=aAk▸i
 have j:Ob G 6 _root_.Go.Proofs.Z.af:=aA3▸hG.iU
 obtain⟨_,_,k,c,q0,s0⟩:=sF (P:=Pr) (W:=6) (e:=160) (a:=some ⟨n,0,none⟩) (cap:=1) (n:=1) b FV FU
 obtain rfl:k=0:=FQ
 cases c
 obtain⟨_,_,p1,d,o,s1⟩:=sF (P:=Pr) (W:=3) (e:=163) (a:=some ⟨n+1,0,none⟩) (cap:=1) (n:=1) b FV FU
 obtain rfl:p1=0:=FQ
 cases d
 obtain⟨_,_,l,e2,q2,s2⟩:=sF (P:=Pr) (W:=2) (e:=165) (a:=some ⟨n+2,0,none⟩) (cap:=1) (n:=1) b FV FU
 obtain rfl:l=0:=FQ
 cases e2
 obtain⟨_,_,p3,f,p,s3⟩:=sF (P:=Pr) (W:=2) (e:=152) (a:=some ⟨n+3,0,none⟩) (cap:=2) (n:=2) b FV FU
 obtain rfl:p3=0:=FQ
 cases f
 refine⟨_,_,_,Zn (P:=Pr) (g:=12) (sl:=[(0,0,0),(1,0,0),(2,0,0),(3,0,0),(4,0,0),(5,0,0),(6,0,0),(7,0,0),(8,0,0),(9,0,0),(10,0,0),(11,0,0),(n,0,0),(n+1,0,0),(n+2,0,0),(n+3,0,0)])
  ⟨Mj b l0 ?_,Mj b l1 ?_,Mj b j ?_,s0 ?_,s1 ?_,s2 ?_,s3 ?_,trivial⟩ FU ⟨IA,FV⟩ aTl,?_⟩
 all_goals
  repeat' first|exact trivial|exact rfl|refine⟨?_,?_⟩
theorem Gb.mono {b:Bg} (a:G.Le b) (h:Gb G):Gb b:=⟨h.Nq.mono a,h.kin.mono a,h.iU.mono a⟩
def Lu {W:Nat} {e:TypeId} (r:0<W) (t:Hs G h L) [m:dZ (eC W e a c) L (n,cs) L'] (s:∀i,i<n->(cs.drop<|i*W).take W=f i):zE (frz G h) W (.slice a n c) n f:=by
 obtain⟨a,c,e,k⟩:=aPu r<|m.of t;exact⟨a,c,e,fun i d=>by obtain⟨b,o,l,g,j,p,q⟩:=k i d;exact⟨b,o,l,g,j,p.trans<|s i d,q⟩⟩
def aX4 {a1 a2 a3 a4 a5:Addr} (b:Hs G h L) [m1:dZ (eC 1 53 (some a1) 1) L (1,[.slice (some a5) 3 3]) L1] [m2:dZ (eC 1 3 (some a2) 1) L (1,[I 1]) L2] [m3:dZ (eC 1 3 (some a3) 1) L (1,[I 1]) L3] [m4:dZ (eC 1 3 (some a4) 4) L (4,zA) L4] [m5:dZ (eC 4 55 (some a5) 3) L (3,prA) L5]:
  A.Zy (frz G h) (.slice (some a1) 1 1) (.slice (some a2) 1 1) (.slice (some a3) 1 1) (.slice (some a4) 4 4) [iA] [1] [1] [0,0,0,0]:=by
 have Fh:∀{i:Nat},i<1->i=0:=fun h=>FQ
 refine⟨⟨[.slice (some a5) 3 3],rfl,Lu (e:=53) (cs:=[.slice (some a5) 3 3]) FV b fun i a=>?_,fun i u q c d=>?_⟩,Lu (e:=3) (cs:=[I 1]) FV b fun i a=>?_,Lu (e:=3) (cs:=[I 1]) FV b fun i a=>?_,Lu (e:=3) (cs:=zA) FV b fun i a=>?_⟩
 .cases Fh a;rfl
 .match i with
  |0=>
   cases c;cases d
   refine Lu (e:=55) (cs:=prA) FV b fun i a=>?_
   have:i=0\/i=1\/i=2:=FQ
   rcases this with rfl|rfl|rfl<;>rfl
  |i+1=>cases c
 .cases Fh a;rfl
 .cases Fh a;rfl
 .have:i=0\/i=1\/i=2\/i=3:=FQ
  rcases this with rfl|rfl|rfl|rfl<;>rfl
def zo:Bf cA [iA] [1] [1] [0,0,0,0]=0:=FU
def aXb:bU.core cA MA 0=([I 0,I 5,I 5,I 0,I 3,I 1,.bool true],0):=FU
attribute [local irreducible] MA
theorem aK6 (hG:Gb G) (i:Ob G 1 Go.Is.vV) (f:Hs G h L) (u:∀t,Q (.bool true) t):JL 5 [] h Q:=by
 refine cW<|Jb (F:=FP aU3) rfl (bD2 ⟨rfl,aZ3 hG i f⟩) ?_;have f:=Tb (W:=4) (n:=3) (e:=55) (c:=prA) (x:=false) f rfl rfl;obtain⟨n0,s⟩:∃n,n=h.next:=⟨_,rfl⟩
 rw[<-s] at f ⊢;refine aN rfl<|aN rfl<|aN rfl<|aZ (c:=cA.enc) rfl<|aZ (c:=[.slice (some ⟨n0,0,none⟩) 3 3]) rfl<|eA (W:=1) (l:=[.slice (some ⟨n0,0,none⟩) 3 3]) (n:=1) (c:=1) f rfl rfl rfl fun a1 h f=>?_;refine aZ (c:=[I 1]) rfl<|eA (W:=1) (l:=[I 1]) (n:=1) (c:=1) f rfl rfl rfl fun g h f=>aZ (c:=[I 1]) rfl<|eA (W:=1) (l:=[I 1]) (n:=1) (c:=1) f rfl rfl rfl fun a3 h f=>aIz (n:=4) FV FV<|eA (W:=1) (l:=zA) (n:=4) (c:=4) f rfl rfl rfl fun a4 h f=>?_;refine aZ (c:=Bw cA (.slice (some a1) 1 1) (.slice (some g) 1 1) (.slice (some a3) 1 1)<|.slice (some a4) 4 4) rfl<|cT f fun p h f=>an (b:=p) f fun h f=>am p f (l:=Bw cA (.slice (some a1) 1 1) (.slice (some g) 1 1) (.slice (some a3) 1 1)<|.slice (some a4) 4 4) rfl rfl ?_;refine zi (G:=frz G h) (Cf:=cA) (L:=[]) FW (hG.mono f.aS2) (i.mono f.aS2) (aX4 f) f.frz (fun e=>absurd zo e) fun _ m h q=>?_;have f:Hs G h ([bY (frz G _) cA m mA]++_):=f.bAh q;simp only[gg,hT] at f;have f:Hs G h (bY G cA m mA::_):=f;refine aN rfl<|aN rfl<|bZ<|aab<|bZ<|aab<|dN<|cY<|bW ?_;refine ky (Cf:=cA) (m:=m) (M:=mA) (S:=iq [iA] [1]) (N:=0) (most:=100) (Fa zo).1 hG (zh zo) FQ f fun h f=>?_;rw[aXc] at f ⊢;rw[aZ4];refine aN rfl<|aN rfl<|aGf (Cf:=cA) (M:=MA) (x:=0) (Fa zo).1 f fun h f=>?_;rw[aXb];refine aN rfl<|aN rfl<|cT f fun r h f=>an (b:=r) f fun h f=>bI f fun z h f=>aA<|am p f (l:=cA.enc) rfl rfl ?_;obtain⟨a,b,c,d,σ,E,Z,j,e,_⟩:=aS5 (L:=L) (m:=m) (a1:=a1) (a2:=g) (a3:=a3) (a4:=a4) (a5:=⟨n0,0,none⟩) hG i f.to;refine Jb (F:=FS m) rfl (bD2 ⟨a,b,c,d,σ,E,Z,j,e⟩) ?_;have f:=Tb (W:=6) (n:=1) (e:=160) (c:=[I 0,I 0,I 4,I 1,I 5,I 0]) (x:=false) f rfl rfl;have f:=Tb (W:=3) (n:=1) (e:=163) (c:=[I 0,I 0,I 1]) (x:=false) f rfl rfl;have f:=Tb (W:=2) (n:=1) (e:=165) (c:=[I 1,.bool false]) (x:=false) f rfl rfl;have f:=Tb (W:=2) (n:=2) (e:=152) (c:=[I 0,I 0,I 0,I 0]) (x:=false) f rfl rfl;have y:=f;obtain⟨σ,E,Z,j,e⟩:=aZd (n:=h.next) hG i f;refine Jb (F:=FC cA.enc<|aS h.next) rfl (bD2 ⟨σ,E,Z,j,rfl,e⟩) ?_;refine aN rfl<|aN rfl<|nI f rfl rfl fun k h f=>an (b:=k) f fun h f=>?_;refine dT (aA eG)<|dT (am p y (l:=cA.enc) rfl rfl HR)<|dT (aN rfl lG)<|gA<|cF<|cS rfl ?_;refine aA<|fQ FQ FQ<|ai r f (v:=I 5) rfl<|cF<|cS rfl<|aN0 (Cf:=cA) (M:=MA) f fun h f=>?_;rw[aYy];refine cF<|cS rfl<|am k f (l:=[I 0,I 0]) rfl rfl<|aZ (c:=[I 0,I 0]) rfl<|aWz<|gA<|cF<|cS rfl ?_;refine am p f (l:=Bw cA (.slice (some a1) 1 1) (.slice (some g) 1 1) (.slice (some a3) 1 1)<|.slice (some a4) 4 4) rfl rfl ?_;obtain⟨a,b,c,d,σ,E,Z,j,e,e2⟩:=aS5 (L:=L) (m:=m) (a1:=a1) (a2:=g) (a3:=a3) (a4:=a4) (a5:=⟨n0,0,none⟩) hG i f.to;exact Jb (F:=FH _ m) rfl (bD2 ⟨a,b,c,d,σ,E,Z,j,e,e2⟩)<|u _
end Go.Proofs.Z
