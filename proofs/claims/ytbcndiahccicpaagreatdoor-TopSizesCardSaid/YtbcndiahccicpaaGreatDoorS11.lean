/- A part of the proof. -/
import Derived.Test.YtbcndiahccicpaaGreatDoorS10
import Derived.Test.YtbcndiahccicpaaGreatDoorS9
set_option linter.all false
open Go Go.Ab
variable {N g i k n:Nat} {a c l o v:Int} {b:Bool}
namespace Go.Mc
open Go.Hm Go.At Go.Is Go.Ct Go.Nt Go.Pc
variable {C:bQ} {M M' M1:bU} {V V':Nat->Ln} {A0:AM} {r:Mc.mP} {s:aQ} {es:JH} {X:Nat->jR} {S:Nat->IV}
abbrev zI (C:bQ) (M:bU) (V:Nat->Ln):AM:=⟨C,M.aD,M.bH.eU.map mV.owner,V⟩
structure RX (C:bQ) (A0:AM) (M:bU) (V:Nat->Ln):Prop where
 rY:sX C M.aJ M.bR V (dR C M.cD)
 gG:mB C M.aT M.bH (dR C M.cD)
 Vq:∀g r,M.bH.eI g=some r->r.phase=2->Sm (M.aJ<|g*2).1/\Sm (M.aJ<|g*2+1).1
 uC:∀g r,M.bH.eI g=some r->aQ.xW (M.aD r.core.toNat) r.core.toNat=some ⟨r.core,r.aY,r.call,g,r.to⟩/\jK r.call r.aY (M.bH.jX g).owner r.to=(r.kB,r.oD,0)
 eF:uW A0 M.eF 0=(zI C M V,M.eF.length,0)
theorem qb {x:Ev} {B:AM} (h:uW A0 M.eF 0=(zI C M V,M.eF.length,0)) (b:(zI C M V).step x.core (Ak x)=(B,x,0)):uW A0 (M.eF++[x]) 0=(B,(M.eF++[x]).length,0):=by
 have:=Xy (k:=0) (l:=M.eF) (x:=x) (by rw[AD];exact h)<|aU5 b;grind
theorem aEa (hC:C.Ok) (b:cX C N M) (h:M.bH.gZ i=false) (d:M.bH.eI g=some r):r.core.toNat≠i:=fun e=>by
 have f:=(b.bH.run g r d).2.2.2.1;have:M.bH.gZ i=true:=(tT hC b.bH).2 ⟨g,by unfold rc;grind⟩;grind
theorem RX.aSe (hC:C.Ok) (q:cX C N M) (h:RX C A0 M V) {v:Ev} (u:M.bH.gZ i=false)
  (k:M1.aD=bA M.aD i s) (e2:M1.eF=M.eF++[v]) (b:M1.bH=M.bH) (d:M1.aJ=M.aJ) (p:M1.aT=M.aT) (e:M1.cD=M.cD)
  (hc:sX C M.aJ M1.bR V' (dR C M.cD)) (t:v.core=i) (j:(zI C M V).step i (Ak v)=({zI C M V with aD:=bA M.aD i s,mem:=V'},v,0)):RX C A0 M1 V':=by
 constructor
 case rY=>rw[d,e];exact hc
 case gG=>rw[b,p,e];exact h.gG
 case Vq=>rw[b,d];exact h.Vq
 case uC=>
  rw[b,k]
  intro g r f
  unfold bA
  rw[bD1<|aEa hC q u f]
  exact h.uC g r f
 case eF=>
  rw[<-t] at j
  have:=qb h.eF j
  grind
theorem RX.Rg (hC:C.Ok) (q:cX C N M) (h:RX C A0 M V) {code:Int} (u:M.bH.gZ i=false)
  (f:M1.aD=M.aD) (e2:M1.eF=M.eF) (g:M1.bH=M.bH) (j:M1.aJ=M.aJ) (k:M1.aT=M.aT) (p:M1.cD=M.cD) (hc:sX C M.aJ M1.bR V' (dR C M.cD))
  (d:(zI C M V).step i b=({zI C M V with aD:=bA M.aD i (aQ.bK (M.aD i) i v code).1,mem:=V'},(aQ.bK (M.aD i) i v code).2.1,0)/\(aQ.bK (M.aD i) i v code).2.2=0/\Ak (aQ.bK (M.aD i) i v code).2.1=b):RX C A0 (M1.bK i v code).1 V':=by
 obtain⟨d,e,t⟩:=d
 unfold bU.bK
 rw[f,bD1<|by rw[e];simp]
 exact h.aSe (s:=(aQ.bK (M.aD i) i v code).1) (v:=(aQ.bK (M.aD i) i v code).2.1) hC q u FR FR g j k p hc (By e) (by rw[t];exact d)
theorem Gk {l:List (Int×Int)} {g:Int} (h:jC l g=some o):(g,o)∈l:=by
 unfold jC at h;cases hf:l.find? (fun x=>decide<|x.1=g) with
 |none=>rw[hf] at h;cases h
 |some x=>
  grind
theorem Ux (b:g<es.length):(es.map mV.owner).getD g 0=(es.getD g qF).owner:=by
 grind
theorem RX.bAu (h:RX C A0 M V) {out:IT} (e:(dR C M1.cD).Perm (out++dR C M.cD)) (j:∀x∈out,¬KK x.kind)
  (f:M1.aD=M.aD) (e2:M1.eF=M.eF) (b:M1.bH=M.bH) (d:M1.aJ=M.aJ) (g:M1.aT=M.aT) (i:M1.bR=X) (hc:sX C M.aJ X V (out++dR C M.cD)):RX C A0 M1 V:=by
 constructor
 case rY=>rw[d,i];exact hc.cI e.symm
 case gG=>rw[b,g];exact(h.gG.Ph j).cI e.symm
 case Vq=>rw[b,d];exact h.Vq
 case uC=>rw[b,f];exact h.uC
 case eF=>rw[e2,h.eF];grind
def aTv (e:cX C N M) (h:RX C A0 M V) (f:(i:Int)<C.aB) {w:Int} (j:0<=w/\w<C.aF*2) (k:C.aF=(C.aM*2).toNat) (g:jC (M.aT i).bL (w/2/2)=some o) {aY:Int}:
  (zI C M V).Nw aY w=yM aY o:=by
 unfold AM.Nw
 rw[bD2 j]
 have b:=e.bH.len
 have d:o=(M.bH.jX<|w/2/2).owner:=(h.gG.bL i f _<|Gk g).2.1
 rw[Ux FQ,d]
 congr 4
 omega
theorem aHc {b:Int} {w:Bool} (h:Ct.pK n S l b w=true):(bJ n S l).2=0:=by
 unfold Ct.pK at h;grind
def pw {b:Int} {w:Bool} (e:0<=l/\l<C.aF) (ha:a=0\/a=1) (d:Ct.pK C.aU.toNat S l b w=true):tF C S l a b w=0:=by
 unfold tF;rw[bD1<|by unfold vK;simp;omega,aaa,aaa,bD1<|by rw[d];simp]
theorem RX.kD (hC:C.Ok) (x:cX C N M) (h:RX C A0 M V) {a:vT} (p:(i:Int)<C.aB) (B:M.bH.gZ i=false) (ha:aQ.iG (M.aD i)=some a)
  (D:0<=a.dD/\a.dD<C.aF*2) (y:(zI C M V).Nw (M.aD i).aY a.dD=true) (hc:Ct.pK C.aU.toNat (M.bR i).S (a.dD/2) o a.iV=true):
  ∃V',RX C A0 (M.kD C i (a.dD/2) (a.dD % 2) o a).1 V':=by
 have d:i<4:=GA
 obtain⟨k,t⟩:=ay<|show 0<=a.dD/2 by omega
 have g:a.dD % 2=0\/a.dD % 2=1:=FQ
 have f:=aHc hc
 rw[t] at f hc
 have u:=h.rY.value d FQ f
 have w:a.dD.toNat/2=k:=FQ
 have em:a.dD.toNat % 2=0↔a.dD % 2=0:=FQ
 have z:=aD3 (A:=zI C M V) (i:=i) (a:=a) (b:=false) (v:=if a.F4 then Iu C (M.bR i) k (a.dD % 2) else 0) p ha y (by
  unfold Iu aYd Jk;grind)
 have j:sX C M.aJ (bA M.bR i<|if a.F4 then pG C (M.bR i) k (a.dD % 2) o else M.bR i) V (dR C M.cD):=by
  split;exact h.rY.aMn d p;rw[zQ];exact h.rY
 rw[t]
 refine⟨if a.iV then Fm V a.dD.toNat a.value else V,?_⟩
 refine h.Rg hC x (b:=false) (M1:=M.kC i _) B rfl rfl rfl rfl rfl rfl ?_ z
 cases hwr:a.iV with
 |false=>exact j
 |true=>
  rw[hwr] at hc
  have q:tF C (bA M.bR i (if a.F4 then pG C (M.bR i) k (a.dD % 2) o else M.bR i) i).S k (a.dD % 2) o true=0:=by
   rw[Ab.dI];refine pw FQ g ?_;split;unfold pG;rw[bD2<|pw FQ g<|S3 hc];unfold Ct.pK at hc ⊢;rw[Hu (h.rY.yZ i d).aU f];exact hc;exact hc
  have:=j.aW2 (v:=a.value) d p q
  rw[Ab.dI,Al] at this
  have E:bA V k (aMa (V k) (a.dD % 2) a.value)=Fm V a.dD.toNat a.value:=by
   unfold Fm aMa;rw[w];congr 1;by_cases e:a.dD % 2=0;rw[bD2 e,bD2<|em.2 e];grind
  grind
theorem RX.eK (hC:C.Ok) (k:cX C N M) (h:RX C A0 M V) {a:vT} (f:(i:Int)<C.aB) (v:M.bH.gZ i=false) (ha:aQ.iG (M.aD i)=some a):
  ∃V',RX C A0 (M.eK C i a).1 V':=by
 unfold bU.eK
 by_cases d:0<=a.dD/\a.dD<C.aF*2
 rotate_left
 .rw[bD2 d];exact⟨V,h.Rg hC k v rfl rfl rfl rfl rfl rfl h.rY<|nq (A:=zI C M V) (b:=false) f ha<|by exact bD1 d⟩
 rw[bD1 fun e=>e d]
 by_cases g:((M.aT i).uC C (M.aD i).aY<|a.dD/2/2).2≠0
 .grind
 rw[bD1 g]
 have g:=cb.1 g
 unfold jO.uC at g ⊢
 split at g
 rotate_left
 .cases g
 rename_i q
 rw[bD2 q]
 cases hkn:jC (M.aT i).bL (a.dD/2/2) with
 |none=>
  rw[bD2 rfl]
  unfold bU.Bk
  dsimp only
  by_cases y:((M.aT i).dJ C<|a.dD/2/2).2.2≠0
  .grind
  rw[bD1 y]
  split
  .exact⟨V,h⟩
  .rename_i p;have B:=(gM<|cb.1 p).1;refine⟨V,?_,?_,h.Vq,h.uC,h.eF⟩
   .exact(h.rY.Ph (N':=[_]) fun x G=>by rw[aV.1 G];show ¬PK 6;decide).cI B.symm
   .exact(h.gG.Bk f<|cb.1 y).cI B.symm
 |some o=>
  have z:=aTv (aY:=(M.aD i).aY) k h f d (by unfold bQ.aF;omega) hkn
  have u:M.bL i (a.dD/2/2)=o:=by unfold bU.bL;rw[hkn];rfl
  by_cases j:yM (M.aD i).aY o=true
  rotate_left
  .simp only[bD1 j];exact⟨V,h.Rg hC k v rfl rfl rfl rfl rfl rfl h.rY<|nq (A:=zI C M V) (b:=false) f ha FR⟩
  .have e:(if yM (M.aD i).aY o=true then((1:Int),(0:Int)) else(2,0))=(1,0):=bD2 j;simp only[e];rw[bD1 FV,bD1 FV,u];split
   .unfold bU.fY;obtain⟨H,out,e,E,D,_⟩:=h.rY.aWw hC GA f (l:=a.dD/2) (w:=(M.aD i).aY) (wr:=a.iV);have t:=aJo (C:=C) (core:=(i:Int)) (s:=M.bR i) (l:=a.dD/2) (w:=(M.aD i).aY) (wr:=a.iV);rw[E] at t ⊢;dsimp only at t ⊢;split
    .exact⟨V,h⟩
    .split
     .exact⟨V,h⟩
     .rename_i p;exact⟨V,h.bAu (gM<|cb.1 p).1 t rfl rfl rfl rfl rfl rfl D⟩
   .refine h.kD hC k f v ha d FR ?_;grind
variable {L:IT}
def x5 (b:cX C N M) (h:M.bH.phase g=0):M.bH.eI g=none:=by
 unfold Mon.phase Mon.run at h;rw[aac,aL] at h;cases hr:M.bH.eI g with
 |none=>rfl
 |some r=>rw[hr] at h;have:=(b.bH.run g r hr).2.2.1;dsimp only at h;omega
def qn:(es.set g ⟨(es.getD g qF).owner,b⟩).map mV.owner=es.map mV.owner:=by
 apply ri;intro k;rw[k9,k9,CJ];by_cases e:g=k;subst e;rw[bD2 rfl];split;rename_i h;rw[aP,b0 h];rfl;rw[sr FQ];rw[bD1 e]
theorem RX.call (hC:C.Ok) (w:cX C N M) (h:RX C A0 M V) {a:Mc.Np} (S:(i:Int)<C.aB) (J:M.bH.gZ i=false) (ha:aQ.xW (M.aD i) i=some a):RX C A0 (M.call C i a).1 V:=by
 have y:a.core=i:=by obtain⟨x,_,_,rfl⟩:=aa ha;rfl
 have I:=w.bH.len;have R:=hC.2.1;unfold bU.call;dsimp only;have fail:∀e:Int,(zI C M V).call a.call a.aY a.aR a.to (decide<|e=17)=(zI C M V,e)->RX C A0 (M.bK i 0 e).1 V:=fun e P=>
  h.Rg hC w J rfl rfl rfl rfl rfl rfl h.rY (y2 (A:=zI C M V) S ha P)
 have j:(zI C M V).dG.length=M.bH.eU.length:=FR
 have G:¬¬(0<=a.core/\a.core<C.aB):=FQ
 by_cases k:M.bH.kJ a.aR;rotate_left;have b:M.bH.call C.aB a=(M.bH,false,10):=by unfold Mon.call;rw[bD1 G,bD2 k]
 rw[b];refine fail 10 ?_;unfold AM.call;rw[bD2<|by rw[j];exact k];have u:¬¬M.bH.kJ a.aR:=fun e=>e k;have t:0<=a.aR/\a.aR<M.bH.eU.length:=k;obtain⟨g,q⟩:=ay t.1;by_cases K:M.bH.phase a.aR≠0;have b:M.bH.call C.aB a=(M.bH,false,17):=by unfold Mon.call;rw[bD1 G,bD1 u,bD2 K]
 rw[b];refine fail 17 ?_;unfold AM.call;grind;have Q:¬M.bH.gZ a.core=true:=by rw[y,J];simp
 have v:M.bH.phase g=0:=FR
 have E:=x5 w v;have H:(zI C M V).dG.getD a.aR.toNat 0=(M.bH.jX a.aR).owner:=by
  show(M.bH.eU.map mV.owner).getD _ _=_;rw[Ux FQ];rfl
 by_cases p:(jK a.call a.aY (M.bH.jX a.aR).owner a.to).2.2≠0;have b:M.bH.call C.aB a=(M.bH,false,(jK a.call a.aY (M.bH.jX a.aR).owner a.to).2.2):=by unfold Mon.call;grind
 rw[b];rw[bD2 p];refine fail _ ?_;unfold AM.call;grind;have b:M.bH.call C.aB a=((M.bH.oL a.aR.toNat ⟨(M.bH.jX a.aR).owner,true⟩).dL a.aR.toNat<|some<|a.run C.aB<|jK a.call a.aY (M.bH.jX a.aR).owner a.to,true,0):=by
  unfold Mon.call;grind
 rw[b];dsimp only;rw[bD1 FW];have p:(jK a.call a.aY (M.bH.jX a.aR).owner a.to).2.2=0:=cb.1 p;split;exact h;rename_i O;have D:=(gM<|cb.1 O).1;have B:(g:Int)<C.aM:=FQ
 rw[q] at D ⊢;rw[aL];constructor;exact(h.rY.Ph fun x T=>by rw[(Da T).1];decide).cI D.symm;exact(h.gG.gZ hC FQ B E).cI D.symm;intro d r b f;have b:bA M.bH.eI g _ d=some r:=b;unfold bA at b;split at b;cases b;exact absurd (show(1:Int)=2 from f) FV;exact h.Vq d r b f;intro d r b;have b:bA M.bH.eI g _ d=some r:=b;unfold bA at b;show aQ.xW (M.aD r.core.toNat) r.core.toNat=_/\jK r.call r.aY ((M.bH.oL g ⟨(M.bH.jX g).owner,true⟩).jX d).owner r.to=_;rw[Ia FQ FQ];split at b;rename_i e;cases b;rw[aac,e];have z:(a.run C.aB<|jK a.call a.aY (M.bH.jX g).owner a.to).core.toNat=i:=by show a.core.toNat=i;omega
 rw[z];refine⟨?_,?_⟩;rw[ha];obtain⟨U,c2,c3,W,c5⟩:=a;dsimp only at q;rw[q];rfl;rw[<-q];exact Prod.ext rfl<|Prod.ext rfl p;rw[aaa];exact h.uC d r b;show uW A0 M.eF 0=(⟨C,M.aD,(M.bH.eU.set g ⟨(M.bH.jX g).owner,true⟩).map mV.owner,V⟩,_,_);have:(M.bH.eU.set g ⟨(M.bH.jX g).owner,true⟩).map mV.owner=M.bH.eU.map mV.owner:=by
  unfold Mon.jX;rw[aL];exact qn
 rw[this];exact h.eF
theorem RX.step (hC:C.Ok) (j:cX C N M) (h:RX C A0 M V):∃V',RX C A0 (M.step C a).1 V':=by
 unfold bU.step;by_cases g:0<=a/\a<C.aB;rotate_left;grind;rw[bD1 fun e=>e g];dsimp only;obtain⟨i,t⟩:=ay g.1;subst t;split;exact⟨V,h⟩;split;exact⟨V,h⟩;rename_i f;have f:M.bH.gZ (i:Int)=false:=by unfold bU.aH at f;simpa using f
 split;rename_i r k;obtain⟨p,q⟩:=aHu (A:=zI C M V) (b:=false) g.2 k;exact⟨V,h.aSe hC j f (s:=r.1) (v:=r.2) rfl rfl rfl rfl rfl rfl h.rY (Tj k)<|by rw[q];exact p⟩;split;rename_i a d;exact⟨V,h.call hC j g.2 f d⟩;split;rename_i a d;exact h.eK hC j g.2 f d;exact⟨V,h⟩
def oK (b:(g:Int)<C.aM):g*2<C.aF/\g*2+1<C.aF:=by unfold bQ.aF;omega
theorem RX.Eg (B:cX C N M) (h:RX C A0 M V):RX C A0 (M.dJ C a).1 V:=by
 unfold bU.dJ;obtain⟨t,out,e,v,D,_,K⟩:=h.rY.Eg (l:=a) (j:=M.gE C a);have f:=Ti (C:=C) (H:=M.aJ) (l:=a) (j:=M.gE C a);have d:(eQ C M.aJ a<|M.gE C a).1=t:=by rw[v]
 rw[v] at f ⊢;dsimp only at f ⊢;split;exact h;split;exact h;rename_i A;have y:=(gM<|cb.1 A).1;refine⟨D.cI y.symm,(h.gG.Ph f).cI y.symm,fun g r q p=>?_,h.uC,h.eF⟩;have hold:=h.Vq g r q p;have b:=(B.bH.run g r q).1;have I:=(h.gG.wI g b).2 (by rw[q];rfl);have J:∀k:Nat,k<C.aF->k/2=g->Sm (M.aJ k).1->Sm (t k).1:=fun k i G z=>by
  by_cases e:(k:Int)=a;subst e;have E:∀x,(M.gE C k x).2=false:=fun x=>by
   unfold bU.gE;grind
  rw[<-d];unfold eQ;rw[bD2 HF,aL];show Sm (bA M.aJ k _ k).1;rw[Ab.dI];unfold iN.dJ;by_cases u:(M.aJ k).1.busy=true;grind;rw[bD1 u];cases hwt:(M.aJ k).1.aH with
  |nil=>exact z
  |cons n w=>exact z.eY (by simpa using u) hwt (h.rY.aI k i) E
  grind
 have O:=oK b;grind
def Ky {n:aG} (h:Nt.gG C n=0) (d:n.kind=7\/n.kind=13):0<=n.no/\n.no<C.aM:=by
 unfold Nt.gG at h;split at h;split at h;split at h;rename_i g;have b:=g.1;have:Jd n.kind.toNat=[1,13]:=by rcases d with e|e<;>rw[e]<;>rfl
 rw[this] at b;unfold jM at b;split at b;unfold jM at b;split at b;rename_i f;exact f;cases b;cases b;cases h;cases h;cases h
theorem RX.dF (hC:C.Ok) (y:cX C N M) {n:aG} (hp:(dR C M.cD).Perm (n::L)) (W:Nt.gG C n=0) (h:RX C A0 M V) (t:(M.dF C n).2.2=0):
  ∀F:eO,(dR C F).Perm ((M.dF C n).2.1++L)->RX C A0 ((M.dF C n).1.bM F) V:=by
 intro F hF
 have q:=h.rY.cI hp
 have j:=h.gG.cI hp
 obtain⟨δ,R⟩:=fJ W
 obtain⟨i,P⟩:=ay R.1
 have hit:n.core.toNat=i:=FQ
 have v:(i:Int)<C.aB:=FQ
 have β:=y.bH.len
 have γ:=hC.2.1
 unfold bU.dF at t hF ⊢
 by_cases k1:n.kind=1\/n.kind=2\/n.kind=3\/n.kind=4\/n.kind=5
 .rw[bD2 k1] at t hF ⊢;dsimp only at t hF ⊢;obtain⟨H',out,O,Q,_,hH⟩:=q.aMq hC FQ;have E:=X9 (C:=C) (H:=M.aJ) (n:=n);rw[O] at hF E;have D:(eW C M.aJ n).1=H':=by rw[O]
  rw[D]
  refine⟨Q.cI hF.symm,((j.skip GJ).Ph E).cI hF.symm,fun g r J u=>?_,h.uC,h.eF⟩
  have hold:=h.Vq g r J u
  have hl:=oK (y.bH.run g r J).1
  have η:∀k:Nat,k<C.aF->Sm (M.aJ k).1->Sm (H' k).1:=fun k U hs=>by
   by_cases e:(k:Int)=n.aI;rw[<-D];have I:=q.nb n eg HW;unfold eW;rw[bD1<|by unfold Hm.dF;omega,bD2 ⟨I.1,by exact I.2⟩];show Sm (bA M.aJ n.aI.toNat _ k).1;rw[show n.aI.toNat=k by omega,Ab.dI,<-e];have y:=q.aI k U;rw[Sd e.symm HW] at y;exact hs.take y FQ;grind
  grind
 rw[bD1 k1] at t hF ⊢
 by_cases k2:n.kind=8\/n.kind=9\/n.kind=10\/n.kind=11
 .rw[bD2 k2] at t hF ⊢;obtain⟨s',out,O,Q,_⟩:=q.Vp hC FQ;have E:=aBh (C:=C) (core:=n.core) (s:=M.bR n.core.toNat) (n:=n);rw[O] at hF E ⊢;exact⟨Q.cI hF.symm,((j.skip GJ).Ph E).cI hF.symm,h.Vq,h.uC,h.eF⟩
 rw[bD1 k2] at t hF ⊢
 have α:¬PK n.kind:=HW
 have d:=q.skip α
 by_cases Y:n.kind=6
 .rw[bD2 Y] at t hF ⊢;exact⟨(d.Ph (N':=[_]) fun x A=>by rw[aV.1 A];show ¬PK 12;decide).cI hF.symm,(j.dQ FQ FQ y.bH.V0 v P Y).2.cI hF.symm,h.Vq,h.uC,h.eF⟩
 rw[bD1 Y] at t hF ⊢
 by_cases B:n.kind=12
 .rw[bD2 B] at t hF ⊢;dsimp only at t hF ⊢;rw[hit] at hF ⊢;refine⟨(d.Ph fun x A=>?_).cI hF.symm,(j.fM v P B FQ).2.cI hF.symm,h.Vq,h.uC,h.eF⟩;split at A
  .cases A
  .rw[aV.1 A];show ¬PK 6;decide
 rw[bD1 B] at t hF ⊢
 by_cases w:n.kind=13
 .rw[bD2 w] at t hF ⊢;rw[hit];exact⟨(d.Ph (N':=[_]) fun x A=>by rw[aV.1 A];show ¬PK 7;decide).cI hF.symm,(j.eE v P w<|Ky W<|.inr w).2.cI hF.symm,h.Vq,h.uC,h.eF⟩
 rw[bD1 w] at t hF ⊢
 by_cases Z:n.kind=7
 rotate_left
 .grind
 rw[bD2 Z] at t hF ⊢
 dsimp only at t hF ⊢
 have X:=Ky W<|.inl Z
 obtain⟨g,hg⟩:=ay X.1
 obtain⟨r,J,ε,ζ,S,G⟩:=j.dA (g:=g) hC y.bH v P Z hg
 rw[S]
 rw[hT] at hF
 dsimp only
 have T:=(y.bH.run g r J).1
 have hl:=oK T
 have z:∀p f,(M.bH.dL g<|some (r.dA i).gX).eI p=some f->aQ.xW (M.aD f.core.toNat) f.core.toNat=some ⟨f.core,f.aY,f.call,p,f.to⟩/\jK f.call f.aY (M.bH.jX p).owner f.to=(f.kB,f.oD,0):=fun p f b=>by
  have b:bA M.bH.eI g _ p=some f:=b;unfold bA at b;by_cases e:p=g;subst e;rw[bD2 rfl] at b;cases b;exact h.uC p r J;rw[bD1 e] at b;exact h.uC p f b
 by_cases ha:(r.dA i).none=true
 .rw[ha,bD2 rfl];refine⟨?_,G.cI hF.symm,fun p f b u=>?_,z,h.eF⟩
  .exact(d.E5.E5).cI hF.symm
  .have b:bA M.bH.eI g _ p=some f:=b;unfold bA at b;have K:∀k:Nat,oE C M.aJ n.no k=if k=g*2\/k=g*2+1 then iN.oz (M.aJ k) k else M.aJ k:=fun k=>by
    have e1:n.no*2=((g*2:Nat):Int):=FQ
    have e2:n.no*2+1=((g*2+1:Nat):Int):=FQ
    unfold oE jT;rw[e2,e1,bD2 HF,bD2 HF,aL,aL];dsimp only;by_cases e:k=g*2;subst e;rw[Ab.bO FQ,Ab.dI,bD2<|.inl rfl];by_cases e2:k=g*2+1;subst e2;rw[Ab.dI,bD2<|.inr rfl,Ab.bO FQ];rw[Ab.bO e2,Ab.bO e,aaa]
   show Sm (oE C M.aJ n.no<|p*2).1/\Sm (oE C M.aJ n.no<|p*2+1).1
   rw[K,K]
   by_cases e:p=g
   .subst e;rw[bD2<|.inl rfl,bD2<|.inr rfl];exact⟨.inl My,.inl My⟩
   .rw[bD1 e] at b;rw[aaa,aaa];exact h.Vq p f b u
 .rw[bD1 ha];refine⟨d.cI hF.symm,G.cI hF.symm,fun p f b u=>?_,z,h.eF⟩;have b:bA M.bH.eI g _ p=some f:=b;unfold bA at b;split at b
  .cases b;have:(if(r.dA i).none=true then(2:Int) else r.phase)=2:=u;grind
  .exact h.Vq p f b u
def RX.Hk (hC:C.Ok) (e:cX C N M) (h:RX C A0 M V) {b:Int}:RX C A0 (M.dE C a b c).1 V:=by
 unfold bU.dE;dsimp only;split;exact h;rename_i d;have d:=cb.1 d;split;exact h;rename_i f;split;exact h;rename_i g;exact h.dF hC e (Dl d) (M9 e.cD d).1.gG (cb.1 f) _<|(gM<|cb.1 g).1
theorem zW {H:nC} (g:k<C.aF) (h:¬gO C H k>0):¬Lx (H k).1:=by
 unfold gO at h;rw[bD2 HF,aL] at h;unfold bT.E5 at h;rintro (⟨e,f⟩|⟨x,d,b⟩);grind;have:0<((H k).1.aH.filter fun n=>decide<|n.kind=0).length:=DZ.2<|List.ne_nil_of_mem<|BN.2 ⟨d,cj b⟩;split at h<;>omega
def _root_.Go.Pc.sX.oD {H:nC} (h:sX C H X V L) (t:(g:Int)<C.aM) (j:Pc.vQ (H<|g*2).1) (k:Pc.vQ (H<|g*2+1).1):sX C (nP H g) X (At.oD V g) L:=by
 refine⟨fun l q=>?_,h.yZ,h.Bi,h.kT,h.nb⟩;have d:=h.aI l q;have b:Pc.vQ (H l).1->fT l (H l).1 (0,0) (0,0) (rZ C X l) (H8 l L):=fun p=>by
  obtain⟨i,c2⟩:=d.aMo p;exact d.aK9 i fun x f=>⟨(c2 x f).1,fun e=>absurd e (c2 x f).2.1⟩
 unfold nP At.oD;by_cases e:l=g*2;subst e;rw[bD2<|.inl FQ,Ab.bO FQ,Ab.dI];exact b j;by_cases e2:l=g*2+1;subst e2;rw[bD2<|.inr FQ,Ab.dI];exact b k;rw[aaa,Ab.bO e2,Ab.bO e];exact d
theorem Yd (h:RX C A0 M V) (j:(M.gH C a).2=0):
  ∃g r,a=((g:Nat):Int)/\(g:Int)<C.aM/\M.bH.eI g=some r/\r.phase=2/\(Pc.vQ (M.aJ<|g*2).1/\Pc.vQ (M.aJ<|g*2+1).1)/\
   M.gH C a=bU.bK (if r.oD then(M.jI<|(M.bH.oL r.aR.toNat ⟨r.kB,false⟩).dL g none).mJ (nP M.aJ r.aR) else M.jI ((M.bH.oL r.aR.toNat ⟨r.kB,false⟩).dL g none)) r.core.toNat 0 0:=by
 unfold bU.gH at j ⊢
 by_cases i:0<=a/\a<C.aM
 rotate_left
 .rw[bD2 i] at j;cases j
 obtain⟨g,t⟩:=ay i.1
 subst t
 by_cases d:M.gX C g=false
 .grind
 have d:M.gX C g=true:=HY
 unfold bU.gX at d
 simp only[dn,AG,AW,BS] at d
 obtain⟨⟨f,w⟩,k⟩:=d
 have b:M.bH.run g=M.bH.eI g:=by unfold Mon.run;rw[aac,aL]
 cases hr:M.bH.eI g with
 |none=>unfold Mon.phase at f;rw[b,hr] at f;cases f
 |some r=>
  have v:r.phase=2:=by unfold Mon.phase at f;grind
  have q:=oK i.2
  have hold:=h.Vq g r hr v
  have x:Pc.vQ (M.aJ<|g*2).1:=by
   rcases hold.1 with e|e;exact absurd e<|zW q.1 FR;exact e
  have y:Pc.vQ (M.aJ<|g*2+1).1:=by
   rcases hold.2 with e|e;exact absurd e (zW q.2<|by exact k);exact e
  by_cases p:M.bH.kJ g
  .have u:M.bH.over g=((M.bH.oL r.aR.toNat ⟨r.kB,false⟩).dL g none,some r,0):=by
    unfold Mon.over;rw[bD1 fun e=>e p,b,hr];dsimp only;grind
   grind
  .have u:M.bH.over g=(M.bH,none,10):=by unfold Mon.over;rw[bD2 p]
   grind
def aUh (V:Nat->Ln) (b:Bool) (g:Nat):Nat->Ln:=if b then At.oD V g else V
theorem RX.gH (hC:C.Ok) (x:cX C N M) (Q:Dh M) (h:RX C A0 M V) (t:(g:Int)<C.aM) (v:M.bH.eI g=some r) (T:r.phase=2) (q:Pc.vQ (M.aJ<|g*2).1/\Pc.vQ (M.aJ<|g*2+1).1):
  RX C A0 (bU.bK (if r.oD then(M.jI<|(M.bH.oL r.aR.toNat ⟨r.kB,false⟩).dL g none).mJ (nP M.aJ r.aR) else M.jI ((M.bH.oL r.aR.toNat ⟨r.kB,false⟩).dL g none)) r.core.toNat 0 0).1 (Mc.aUh V r.oD g)/\
  (bU.bK (if r.oD then(M.jI<|(M.bH.oL r.aR.toNat ⟨r.kB,false⟩).dL g none).mJ (nP M.aJ r.aR) else M.jI ((M.bH.oL r.aR.toNat ⟨r.kB,false⟩).dL g none)) r.core.toNat 0 0).2=0:=by
 obtain⟨H,S⟩:=h.uC g r v
 have I:=x.bH.len
 have u:=x.bH.run g r v
 obtain⟨i,W⟩:=ay u.2.2.2.1.1
 have hit:r.core.toNat=i:=FQ
 have z:(i:Int)<C.aB:=FQ
 rw[hit] at H
 have R:r.aR=g:=u.2.1
 have J:(zI C M V).dG.length=M.bH.eU.length:=by show(M.bH.eU.map _).length=_;rw[k6]
 have p:(zI C M V).dG.getD (g:Int).toNat 0=(M.bH.jX g).owner:=by
  show(M.bH.eU.map mV.owner).getD _ _=_;rw[Ux FQ];rfl
 have j:(zI C M V).call r.call r.aY g r.to (decide<|(0:Int)=17)=(⟨C,M.aD,(M.bH.eU.map mV.owner).set g r.kB,Mc.aUh V r.oD g⟩,0):=by
  unfold AM.call;rw[aaa,bD1 FV,p,S,bD1 FW];rfl
 have E:=y2 (A:=zI C M V) (e:=0) z H j
 obtain⟨w,G,y⟩:=E
 have y:Ak (aQ.bK (M.aD i) i 0 0).2.1=false:=y
 have w:(zI C M V).step i false=_:=w
 have k:=By G
 generalize P:(if r.oD then(M.jI<|(M.bH.oL r.aR.toNat ⟨r.kB,false⟩).dL g none).mJ (nP M.aJ r.aR) else M.jI ((M.bH.oL r.aR.toNat ⟨r.kB,false⟩).dL g none))=M1
 have m1:M1.aD=M.aD:=FR
 have m2:M1.eF=M.eF:=FR
 have m3:M1.bH=(M.bH.oL g ⟨r.kB,false⟩).dL g none:=FR
 have m4:M1.aJ=if r.oD then nP M.aJ g else M.aJ:=FR
 have m5:M1.aT=M.aT:=FR
 have m6:M1.cD=M.cD:=FR
 have m7:M1.bR=M.bR:=FR
 have K:M1.bK r.core.toNat 0 0=((M1.oZ i (aQ.bK (M.aD i) i 0 0).1).Zv (aQ.bK (M.aD i) i 0 0).2.1,0):=by
  unfold bU.bK;dsimp only;have O:(aQ.bK (M1.aD i) i 0 0).2.2=0:=by rw[m1];exact G
  grind
 rw[K]
 refine⟨?_,rfl⟩
 constructor
 case rY=>
  rw[m4,m6,m7]
  unfold Mc.aUh
  split
  .exact h.rY.oD t q.1 q.2
  .exact h.rY
 case gG=>
  rw[m3,m5,m6]
  exact(h.gG.over hC FQ t v T).1
 case Vq=>
  rw[m3,m4]
  intro d f b D
  have b:bA M.bH.eI g none d=some f:=b
  unfold bA at b
  by_cases e:d=g
  .grind
  .rw[bD1 e] at b;have:=h.Vq d f b D;split
   .unfold nP;grind
   .exact this
 case uC=>
  intro d f b
  have b:=b
  rw[m3] at b
  have b:bA M.bH.eI g none d=some f:=b
  unfold bA at b
  by_cases e:d=g
  .grind
  rw[bD1 e] at b
  have B:f.core.toNat≠i:=fun e2=>by
   have U:=(x.bH.run d f b).2.2.2.1;refine e<|Q.Fh d g r.core ?_ ?_;unfold rc;grind;unfold rc;rw[v];rfl
  show aQ.xW (bA M1.aD i _ f.core.toNat) _=_/\jK _ _ (M1.bH.jX d).owner _=_
  rw[m1,m3,Ab.bO B]
  have:((M.bH.oL g ⟨r.kB,false⟩).dL g none).jX d=M.bH.jX d:=by
   show(M.bH.oL g _).jX d=_;rw[Ia FQ FQ,aaa]
  rw[this]
  exact h.uC d f b
 case eF=>
  rw[<-k,<-y] at w
  have:=qb h.eF w
  show uW A0 (M1.eF++_) 0=(⟨C,bA M1.aD i _,M1.bH.eU.map mV.owner,_⟩,(M1.eF++_).length,0)
  rw[m1,m2,m3,this]
  have:((M.bH.oL g ⟨r.kB,false⟩).dL g none).eU.map mV.owner=(M.bH.eU.map mV.owner).set g r.kB:=by
   show(M.bH.eU.set g _).map _=_;rw[List.map_set]
  rw[this]
theorem D6 (h:(M.bK i v c).2≠0):(M.bK i v c).1=M:=by
 unfold bU.bK at h ⊢;grind
theorem RX.Gd (hC:C.Ok) (u:cX C N M) (v:Dh M) (h:RX C A0 M V):∃V',RX C A0 (M.gH C a).1 V':=by
 by_cases b:(M.gH C a).2=0;obtain⟨g,r,rfl,d,i,f,q,z⟩:=Yd h b;rw[z];exact⟨_,(h.gH hC u v d i f q).1⟩;refine⟨V,?_⟩;suffices t:(M.gH C a).1=M by rw[t];exact h
 unfold bU.gH at b ⊢;by_cases k:¬(0<=a/\a<C.aM);rw[bD2 k];rw[bD1 k] at b ⊢;by_cases p:M.gX C a=false;rw[bD2 p];rw[bD1 p] at b ⊢;dsimp only at b ⊢;cases ho:(M.bH.over a).2.1 with
 |none=>rfl
 |some r=>
  obtain⟨g,A⟩:=ay (cb.1 k).1;subst A;have B:M.bH.kJ g:=by
   apply hK;intro e;unfold Mon.over at ho;rw[bD2 e] at ho;cases ho
  have j:M.bH.run g=M.bH.eI g:=by unfold Mon.run;rw[aac,aL]
  unfold Mon.over at ho b;rw[bD1 fun e=>e B,j] at ho b;cases i:M.bH.eI g with
  |none=>grind
  |some D=>
   rw[i] at ho b;dsimp only at ho b;split at ho;cases ho;rename_i f;cases ho;have d:=(cb.1 k).2;have t:M.gX C g=true:=by simpa using p
   unfold bU.gX at t;have f:=cb.1 f;have w:=oK d;have hold:=h.Vq g r i f;have x:Pc.vQ (M.aJ<|g*2).1:=by
    rcases hold.1 with e|e;exact absurd e<|zW w.1 FR;exact e
   have y:Pc.vQ (M.aJ<|g*2+1).1:=by
    rcases hold.2 with e|e;exact absurd e<|zW w.2 FR;exact e
   have:=(h.gH hC u v d i f ⟨x,y⟩).2;grind
def RX.mC (hC:C.Ok) (b:cX C N M) (e:Dh M) (h:RX C A0 M V) {d:Do}:∃V',RX C A0 (M.mC C d).1 V':=by
 unfold bU.mC;split;exact h.step hC b;split;exact⟨V,h.Hk hC b⟩;split;exact⟨V,h.Eg b⟩;split;exact h.Gd hC b e;exact⟨V,h⟩
variable {ps:List (IW)}
theorem RX.kT {ws os vs:FK} (hC:C.Ok) (d:(os.length:Int)=C.aM):RX C (Ql C ps ws os vs) (MC.kT ⟨C,ps,ws,os,vs⟩) (At.tY uB vs 0):=by
 have f:∀F:Nat->IT,(∀c,F c=[])->(List.range C.aB.toNat).flatMap F=[]:=fun F h=>by
  simp_all
 have b:dR C (MC.kT ⟨C,ps,ws,os,vs⟩).cD=[]:=by
  rw[dR];exact f _ fun c=>by rw[List.flatMap_eq_nil_iff];exact fun _ _=>rfl
 constructor;rw[b];refine⟨fun l d=>?_,fun _ _=>ik,fun _ _=>Lb.kT,fun _ _=>rfl,FR⟩;have e:((MC.kT ⟨C,ps,ws,os,vs⟩).aJ l).1=Ep:=by
  show(sQ C.aF l).1=Ep;rw[sQ];rw[bD2 d]
 rw[e];have e2:rZ C (MC.kT ⟨C,ps,ws,os,vs⟩).bR l=fun _=>⟨0,(0,0),false,false,false,0,(0,0)⟩:=by
  funext i;exact aIe
 exact(fT.zero l).aK9 (fun _ _=>rfl) FR;rw[b];refine mB.kT (es:=os.map fun o=>(⟨o,_⟩:mV)) FR hC.2.1.1 fun x g=>?_;grind;exact fun _ _ h=>FZ
 exact fun _ _ h=>FZ
 have:(os.map fun o=>(⟨o,false⟩:mV)).map mV.owner=os:=by
  rw[CB];show os.map (fun o=>o)=os;exact List.map_id' os
 show _=((⟨C,_,(os.map fun o=>(⟨o,_⟩:mV)).map mV.owner,_⟩:AM),0,0);rw[this];rfl
def RY (C:bQ) (M:bU) (V:Nat->Ln):Prop:=∃A0,RX C A0 M V
def RY.rY (h:RY C M V):sX C M.aJ M.bR V (dR C M.cD):=let⟨_,h⟩:=h;h.rY
def RY.gG (h:RY C M V):mB C M.aT M.bH (dR C M.cD):=let⟨_,h⟩:=h;h.gG
def RY.Vq (h:RY C M V):∀g r,M.bH.eI g=some r->r.phase=2->Sm (M.aJ<|g*2).1/\Sm (M.aJ<|g*2+1).1:=let⟨_,h⟩:=h;h.Vq
def RY.uC (h:RY C M V):∀g r,M.bH.eI g=some r->aQ.xW (M.aD r.core.toNat) r.core.toNat=some ⟨r.core,r.aY,r.call,g,r.to⟩/\jK r.call r.aY (M.bH.jX g).owner r.to=(r.kB,r.oD,0):=let⟨_,h⟩:=h;h.uC
def RY.mC (hC:C.Ok) (b:cX C N M) (e:Dh M) (h:RY C M V) {d:Do}:∃V',RY C (M.mC C d).1 V':=by
 obtain⟨A0,h⟩:=h;have⟨V',h'⟩:=h.mC hC b e (d:=d);exact⟨V',A0,h'⟩
theorem Rv (h:RY C M V) (b:(M.gH C a).2=0):
  ∃g r,a=((g:Nat):Int)/\(g:Int)<C.aM/\M.bH.eI g=some r/\r.phase=2/\(Pc.vQ (M.aJ<|g*2).1/\Pc.vQ (M.aJ<|g*2+1).1)/\
   M.gH C a=bU.bK (if r.oD then(M.jI<|(M.bH.oL r.aR.toNat ⟨r.kB,false⟩).dL g none).mJ (nP M.aJ r.aR) else M.jI ((M.bH.oL r.aR.toNat ⟨r.kB,false⟩).dL g none)) r.core.toNat 0 0:=let⟨_,h⟩:=h;Yd h b
theorem RY.gH (hC:C.Ok) (e:cX C N M) (f:Dh M) (h:RY C M V) (d:(g:Int)<C.aM) (j:M.bH.eI g=some r) (i:r.phase=2) (b:Pc.vQ (M.aJ<|g*2).1/\Pc.vQ (M.aJ<|g*2+1).1):
  (bU.bK (if r.oD then(M.jI<|(M.bH.oL r.aR.toNat ⟨r.kB,false⟩).dL g none).mJ (nP M.aJ r.aR) else M.jI ((M.bH.oL r.aR.toNat ⟨r.kB,false⟩).dL g none)) r.core.toNat 0 0).2=0:=let⟨_,h⟩:=h;(h.gH hC e f d j i b).2
theorem Ld {a:vT} (h:aQ.iG s=some a) (hc:c=0\/c=19):(aQ.bK s i v c).2.2=0:=by
 grind[aQ.iG,aQ.bK]
theorem aAc {a:Mc.Np} (h:aQ.xW s i=some a):(aQ.bK s i v c).2.2=0:=by
 grind[aQ.xW,aQ.bK]
theorem Xu {n:aG}:∀{fs:FK} {a:aG},(jM C n fs a).1=true->(0<=a.aI/\a.aI<C.aF)->0<=(jM C n fs a).2.aI/\(jM C n fs a).2.aI<C.aF
 |[],a,_,h=>h
 |f::fs,a,b,h=>by
  unfold jM at b ⊢;split;rename_i d;rw[bD2 d] at b;apply Xu b;rw[F8];by_cases g:f=1;grind;by_cases e:f=2;subst e;exact d;grind;exact h
theorem ku {n:aG} (h:Nt.gG C n=0):0<=n.aI/\n.aI<C.aF:=by
 rw[Nt.gG] at h;split at h;split at h;rename_i hC;have b:=bQ.fF hC;split at h;rename_i d;have:=Xu d.1 (show(0:Int)<=0/\(0:Int)<C.aF by omega);grind;cases h;cases h;cases h
theorem R3 {l:IV} {t:Th} (h:t∈l):(Go.Ct.get t.1 l).isSome=true:=by
 grind[Go.Ct.get]
theorem yu {ways:Nat} {s:jR} (b:Go.Ct.nT n ways s) {t:Th} (d:t∈s.S i):(bJ n s.S t.1).2=0:=by
 have⟨h1,h2⟩:=b.pl i t d;grind[R3,bJ]
theorem aC0 (h:(M.bK i v c).2=0):M.eF.length<(M.bK i v c).1.eF.length:=by
 grind[bU.bK]
end Go.Mc
variable {j:Int->Int×Bool}
namespace Go.Pc
open Go.Hm Go.Ct
variable {C:bQ} {r:bT} {n:aG} {m:Ln} {aI:Int}
def Bsy (r:bT):Prop:=r.busy=true->r.cJ=true\/r.kI=false
theorem Sf {l:FL} (d:i∈l) (b:i<4):(r.iO l).kI=false:=by
 have:(r.iO l).dQ i=true:=by
  show(r.dQ i||l.contains i)=true;rw[List.contains_iff_mem.2 d,Bool.or_true]
 cases hq:(r.iO l).kI with
 |false=>rfl
 |true=>have:=hQ hq b;simp_all
theorem N8 {d:Ln}:Bsy (r.dW aI d).1:=fun _=>by
 left;unfold bT.dW;grind
theorem Bsy.take (h:Bsy r):Bsy (iN.take (r,m) aI n).1.1:=by
 unfold iN.take;split;split;exact h;intro b;cases b;split;split;exact h;unfold iN.nH bT.rest;split;split;intro b;cases b;exact N8;rename_i d;exact fun _=> .inr HY;exact h
def T8 {x:Int} (h:r.first x≠ -1):∃i,i∈r.iX x/\i<4:=by
 apply hK;intro j;refine h<|Im.2 fun c f b=>?_;have g:¬c∈r.iX x:=fun e=>j ⟨c,e,f⟩;rw[tQ] at g;have d:r.mS x c=false:=by
  cases e:r.mS x c with
  |false=>rfl
  |true=>exact absurd ⟨f,e⟩ g
 constructor;cases e:r.sh c with
 |false=>rfl
 |true=>rw[wh b e] at d;cases d
 intro e;rw[xq b e] at d;cases d
theorem Bsy.eY (h:r.busy=false) (t: -1<=r.owner/\r.owner<4):Bsy (bT.eY r aI m n j).1.1:=by
 have d:∀{p:bT},p.busy=r.busy->Bsy p:=fun e q=>FR
 unfold bT.eY;split;exact d rfl;split;split;unfold bT.get;dsimp only;split;unfold bT.La;split;rename_i b;obtain⟨i,g,f⟩:=T8 b;exact fun _=> .inr (Sf g f);exact N8;unfold bT.J2;split;rename_i b;have k:((r.iL n (j n.aY).1).jY).owner.toNat<4:=by
  unfold bT.jY at b ⊢;split;grind;show r.owner.toNat<4;omega
 exact fun _=> .inr (Sf (i:=((r.iL n (j n.aY).1).jY).owner.toNat) (aV.2 rfl) k);exact N8;exact d rfl;split;exact d rfl;rename_i b;obtain⟨i,g,f⟩:=T8 b;exact fun _=> .inr (Sf g f)
end Go.Pc
variable {no:Int}
namespace Go.Mc
open Go.Hm Go.At Go.Is Go.Ct Go.Nt Go.Pc
variable {C:bQ} {s':jR}
section
variable {o:Nat->Int} {s:jR} {n:aG} {core:Int}
def Tg (C:bQ) (o:Nat->Int) (s:jR):Prop:=∀l:Nat,l<C.aF->(bJ C.aU.toNat s.S l).2=0->(bJ C.aU.toNat s.S l).1.w=o l
theorem Tg.Nr (h:Tg C o s) (e:∀l:Nat,l<C.aF->(bJ C.aU.toNat s'.S l).2=0->(bJ C.aU.toNat s.S l).2=0/\(bJ C.aU.toNat s'.S l).1.w=(bJ C.aU.toNat s.S l).1.w):Tg C o s':=
 fun l b d=>(e l b d).2.trans<|h l b (e l b d).1
theorem Tg.drop (d:iH C s) (h:Tg C o s) (e:s'.S=jQ C.aU.toNat s.S no):Tg C o s':=h.Nr fun l _ b=>by
 rw[e] at b ⊢;by_cases e2:(l:Int)=no;rw[e2,I0 d.aU FQ] at b;cases b;grind[nE]
theorem Tg.A9 {x:vX} (g:iH C s) (h:Tg C o s) (e:s'.S=(pB C.aU.toNat C.ways.toNat s.S no x).1) (d:0<=no) (f:(pB C.aU.toNat C.ways.toNat s.S no x).2=0) (j:x.w=o no.toNat):Tg C o s':=fun l i b=>by
 rw[e] at b ⊢;by_cases e2:(l:Int)=no;rw[e2,Ad g.aU d f];grind;rw[mR e2] at b ⊢;exact h l i b
theorem Tg.fY {w:Int} {wr:Bool} (b:iH C s) (h:Tg C o s):Tg C o (fY C core s l w wr).1:=by
 rw[Ct.fY];split;exact h;split;exact h;split;exact h;split;exact h;rw[Ag];split;exact h;split;exact h;split;exact h.drop b rfl;exact h.drop b rfl
theorem Tg.F4 {g:Int} (b:iH C s) (h:Tg C o s):Tg C o (pG C s l a g):=by
 rw[pG];split;rename_i f;have⟨_,_,hp,_⟩:=xB f;refine h.Nr fun k _ d=>?_;by_cases e:(k:Int)=l;rw[e,Hu b.aU hp] at d ⊢;grind;grind[Eh];exact h
theorem Tg.iV {e:Int} (b:iH C s) (h:Tg C o s):Tg C o (mQ C s l a e v):=by
 rw[mQ];split;rename_i d;have⟨hl,_,hp,_⟩:=xB d;apply h.A9 b rfl hl.1<|yG b.aU hp;show(bJ C.aU.toNat s.S l).1.w=_;have:=h l.toNat FQ FR;grind;exact h
theorem Tg.take (b:iH C s) (h:Tg C o s) (e:0<=n.aI/\n.aI<C.aF) (f:n.kind=8->n.aY=o n.aI.toNat) (d:(fP C core s n).2.2=0):Tg C o (fP C core s n).1:=by
 rw[fP] at d ⊢;split;rename_i i;split;exact h;rw[vM] at d ⊢;split;exact h;split;exact h;split;grind;exact h.A9 b rfl e.1 FQ<|f i;split
 .split;exact h
  .rw[Bm];repeat' split
   all_goals exact h
 split
 .split;exact h
  .rw[rU];repeat' split
   all_goals exact h
 split
 .split;exact h
  .rw[lK];split;exact h;split;rename_i g;split;exact h.drop b rfl;apply h.A9 b rfl e.1<|yG b.aU g;have:=h n.aI.toNat FQ FR;grind
   .repeat' split
    all_goals exact h
 exact h
end
section
variable {r:bT} {n:aG} {m:Ln}
def RT (o:Int) (r:bT):Prop:=r.busy=true->r.cJ=false->r.aX.kind≠0->r.aY=o
def OT (o:Int) (L:IT):Prop:=∀y∈L,y.kind=8->y.aY=o
def Et:(r.dA n).aY=r.aY/\(r.dA n).busy=r.busy/\(r.dA n).cJ=r.cJ/\(r.dA n).aX=r.aX:=by
 rw[bT.dA];split;exact⟨rfl,rfl,rfl,rfl⟩;split;split<;>exact⟨rfl,rfl,rfl,rfl⟩;split<;>exact⟨rfl,rfl,rfl,rfl⟩
def Ty {d:Ln} (e:r.aY=o):RT o (r.dW l d).1/\OT o (r.dW l d).2:=by
 rw[bT.dW];split;exact⟨fun _ h=>FZ,fun y b _=>by rwa [aV.1 b]⟩;split;exact⟨fun _ h=>FZ,fun y b _=>by rwa [aV.1 b]⟩;exact⟨fun _ h=>FZ,fun y b _=>by rwa [aV.1 b]⟩
theorem aPs (h:RT o r) (g:wF k r) (p:0<=n.core/\n.core<4):RT o (iN.take (r,m) l n).1.1/\OT o (iN.take (r,m) l n).2.1:=by
 rw[iN.take];split;split;exact⟨h,fun y b=>IK⟩;exact⟨fun e=>(by cases e),fun y b=>IK⟩;split;split;exact⟨h,fun y b=>IK⟩;have⟨k1,k2,k3,k4⟩:=Et (r:=r) (n:=n);have f:r.busy=true/\r.cJ=false:=by
  have j:¬r.kI=true:=fun j=>by
   grind[hQ]
  have:=g.sD;grind
 unfold iN.nH bT.rest;split;split;exact⟨fun e=>(by cases e),fun y b=>IK⟩;rename_i d;rw[k4] at d;exact Ty (by rw[k1];exact h f.1 f.2 d);exact⟨fun e i d=>by rw[k1];rw[k4] at d;exact h (k2▸e) (k3▸i) d,fun y b=>IK⟩;exact⟨h,fun y b=>IK⟩
theorem Oy {s:Int} {L:FL}:OT o (eT l s L):=fun y d b=>by
 grind[eT]
theorem aL6 (p:n.kind=0\/n.kind=1\/n.kind=2\/n.kind=3) (hb:r.busy=false) (u:∀w,(j w).2=true->(j w).1=o):RT o (bT.eY r l m n j).1.1/\OT o (bT.eY r l m n j).2:=by
 have Qw:∀{t:bT},t.busy=r.busy->RT o t:=fun e h=>FR
 have d:∀{k c:Int},k≠8->OT o [mO k c l]:=fun p y f i=>by
  rw[aV.1 f] at i;exact absurd i p
 rw[bT.eY];split;exact⟨Qw rfl,d FV⟩;split;split;rename_i b;have b:=u _ b;unfold bT.get;split;rw[bT.La];split;exact⟨fun _ _ _=>b,Oy⟩;exact Ty b;have q:((r.iL n (j n.aY).1).jY).aY=o:=by rw[bT.jY];split<;>exact b
 rw[bT.J2];split;exact⟨fun _ _ _=>q,Oy⟩;exact Ty q;grind;split;exact⟨Qw rfl,fun y f=>(by cases f)⟩;refine⟨fun _ _ g=>?_,Oy⟩;have g:n.kind≠0:=g;omega
end
variable {M M':bU} {V V':Nat->Ln} {n:aG}
def sP (m:Mon) (l:Nat):Int:=(m.jX ((l/2:Nat):Int)).owner
structure En (C:bQ) (M:bU):Prop where
 w1:∀i:Nat,(i:Int)<C.aB->(M.aT i).dM=true->∃a,aQ.iG (M.aD i)=some a/\(0<=a.dD/\a.dD<C.aF*2)/\(M.aT i).aR=a.dD/2/2
 tc:∀i:Nat,(i:Int)<C.aB->Tg C (sP M.bH) (M.bR i)
 tg:∀x∈dR C M.cD,x.kind=8->x.aY=sP M.bH x.aI.toNat
 tr:∀l:Nat,l<C.aF->RT (sP M.bH l) (M.aJ l).1
 bz:∀l:Nat,l<C.aF->Bsy (M.aJ l).1
variable {s:aQ}
theorem aFx {r:aQ×Ev} (h:aQ.lI s i=some r):aQ.iG s=none:=by
 rw[aQ.lI] at h;rw[aQ.iG];cases hn:aQ.kO s with
 |none=>rfl
 |some x=>
  grind[Qo]
theorem Rq {a:Mc.Np} (h:aQ.xW s i=some a):aQ.iG s=none:=by
 have⟨x,hn,h8,_⟩:=aa h;simp_all[aQ.iG,bD1,Qo]
variable {M1:bU}
theorem En.Ph (h:En C M) {out:IT} (j:(dR C M1.cD).Perm (out++dR C M.cD)) (k:∀x∈out,x.kind≠8) (f:M1.aD=M.aD) (e2:M1.aT=M.aT) (d:M1.bH=M.bH) (e:M1.aJ=M.aJ)
  (hc:∀i:Nat,(i:Int)<C.aB->Tg C (sP M.bH) (M1.bR i)):En C M1:=by
 constructor
 .rw[f,e2];exact h.w1
 .grind
 .intro x b g;rw[d];rcases cg.1 (j.mem_iff.1 b) with b|b
  .grind
  .exact h.tg x b g
 .rw[d,e];exact h.tr
 .rw[e];exact h.bz
theorem En.jA (h:En C M) (p:(i:Int)<C.aB->(M.aT i).dM=false) (f:M1.aD=bA M.aD i s) (e2:M1.aT=M.aT) (d:M1.bH=M.bH) (e:M1.aJ=M.aJ) (g:M1.cD=M.cD)
  (hc:∀j:Nat,(j:Int)<C.aB->Tg C (sP M.bH) (M1.bR j)):En C M1:=by
 constructor
 .intro j k b;rw[e2] at b ⊢;rw[f,Ab.bO FR];exact h.w1 j k b
 .grind
 .rw[d,g];exact h.tg
 .rw[d,e];exact h.tr
 .rw[e];exact h.bz
theorem En.ret (h:En C M) (g:(i:Int)<C.aB->(M.aT i).dM=false) (e:M1.aD=M.aD) (e2:M1.aT=M.aT) (b:M1.bH=M.bH) (d:M1.aJ=M.aJ) (f:M1.cD=M.cD)
  (hc:∀j:Nat,(j:Int)<C.aB->Tg C (sP M.bH) (M1.bR j)):En C (M1.bK i v c).1:=by
 unfold bU.bK
 dsimp only
 split
 .refine⟨by rw[e,e2];exact h.w1,FR,by rw[b,f];exact h.tg,by rw[b,d];exact h.tr,by rw[d];exact h.bz⟩
 .exact h.jA (s:=(aQ.bK (M1.aD i) i v c).1) g (by rw[<-e]) e2 b d f hc
variable {r:Option Mc.mP}
theorem aDe {m:Mon} (d:g<m.eU.length):sP ((m.oL g ⟨(m.jX g).owner,b⟩).dL g r)=sP m:=by
 funext l;show((m.oL g _).jX _).owner=_;grind[Ia,sP]
theorem En.call (v:cX C N M) (h:En C M) {a:Mc.Np} (ha:aQ.xW (M.aD i) i=some a):En C (M.call C i a).1:=by
 have j:(i:Int)<C.aB->(M.aT i).dM=false:=fun u=>by
  cases hw:(M.aT i).dM with
  |false=>rfl
  |true=>
   have⟨b,hb,_⟩:=h.w1 i u hw;grind[Rq]
 unfold bU.call;dsimp only;split;exact h.ret j rfl rfl rfl rfl rfl h.tc;rename_i d;split;exact h;rename_i q;have g:sP (M.bH.call C.aB a).1=sP M.bH:=by
  have d:=cb.1 d;rw[Mon.call] at d ⊢;split at d;cases d;split at d;cases d;split at d;cases d;split at d;cases d;dsimp only at d;split at d;grind;rename_i a1 k a3 a4 a5;rw[bD1 a1,bD1 k,bD1 a3,bD1 a4];dsimp only;rw[bD1 a5];have p:=cb.1 k;rw[Mon.kJ] at p;have e:(M.bH.jX a.aR).owner=(M.bH.jX ((a.aR.toNat:Nat):Int)).owner:=by rw[CV p.1]
  rw[e];exact aDe FQ
 constructor;exact h.w1;rw[g];exact h.tc;intro x f t;rw[g];rcases cg.1 (((gM<|cb.1 q).1).mem_iff.1 f) with f|f;grind[Da];exact h.tg x f t;rw[g];exact h.tr;exact h.bz
theorem wx {o:Nat->Int} {X:Nat->jR} {s:jR} (h:∀j:Nat,(j:Int)<C.aB->Tg C o (X j)) (d:(i:Int)<C.aB->Tg C o s):∀j:Nat,(j:Int)<C.aB->Tg C o (bA X i s j):=fun j b=>by
 grind[cR,Ab.bO]
theorem He (h:RY C M V) (b:(i:Int)<C.aB) (d:jC (M.aT i).bL (M.aT i).aR=some o):(M.aT i).dM=false:=by
 cases hw:(M.aT i).dM with
 |false=>rfl
 |true=>
  exact absurd (gk.2 ⟨_,Gk d,rfl⟩)<|(h.gG.nd i b).2 hw
theorem En.eK (D:cX C N M) (H:RY C M V) (h:En C M) {a:vT} (t:(i:Int)<C.aB) (ha:aQ.iG (M.aD i)=some a):En C (M.eK C i a).1:=by
 have g:=D.Pp i t;have w1:(M.aT i).dM=true->(0<=a.dD/\a.dD<C.aF*2)/\(M.aT i).aR=a.dD/2/2:=fun B=>by
  have⟨b,A,f,w⟩:=h.w1 i t B;grind
 rw[bU.eK];by_cases k:0<=a.dD/\a.dD<C.aF*2;rotate_left;rw[bD2 k];refine h.ret (fun _=>?_) rfl rfl rfl rfl rfl h.tc;grind;rw[bD1 fun e=>e k];dsimp only;by_cases q:((M.aT i).uC C (M.aD i).aY<|a.dD/2/2).2≠0;grind;rw[bD1 q];have q:=cb.1 q;rw[jO.uC] at q ⊢;split at q;rotate_left;cases q;rename_i z;rw[bD2 z];cases hkn:jC (M.aT i).bL (a.dD/2/2) with
 |none=>
  rw[bD2 rfl];unfold bU.Bk;dsimp only;by_cases f:((M.aT i).dJ C<|a.dD/2/2).2.2≠0;grind;rw[bD1 f];have f:=cb.1 f;split;exact h;rename_i w;have A:((M.aT i).dJ C<|a.dD/2/2).1=(M.aT i).A3 (a.dD/2/2):=by
   rw[jO.dJ] at f ⊢;split at f;cases f;split at f;cases f;split at f;cases f;grind
  constructor;intro j E p;dsimp only at p ⊢;by_cases e:j=i;subst e;rw[cR,A];exact⟨a,ha,k,rfl⟩;rw[Ab.bO e] at p ⊢;exact h.w1 j E p;exact h.tc;intro x d y;rcases cg.1 (((gM<|cb.1 w).1).mem_iff.1 d) with d|d;rw[aV.1 d] at y;cases y;exact h.tg x d y;exact h.tr;exact h.bz
 |some o=>
  have v:(i:Int)<C.aB->(M.aT i).dM=false:=fun _=>by
   cases B:(M.aT i).dM with
   |false=>rfl
   |true=>
    grind[He]
  by_cases u:yM (M.aD i).aY o=true;rotate_left;simp only[bD1 u];exact h.ret v rfl rfl rfl rfl rfl h.tc;simp only[bD2 u];rw[bD1 FV,bD1 FV];split;unfold bU.fY;dsimp only;split;exact h;split;exact h;have G:∀x∈(Ct.fY C (i:Int) (M.bR i) (a.dD/2) (M.aD i).aY a.iV).2.1,x.kind≠8:=by
   intro x d;rw[Ct.fY] at d;split at d;cases d;split at d;cases d;split at d;cases d;split at d;cases d;rw[Ag] at d;split at d;grind[tV];split at d;cases d;split at d;cases d;grind[tV]
  exact h.Ph (gM FQ).1 G rfl rfl rfl rfl<|wx h.tc fun _=>(h.tc i t).fY g;refine h.ret v rfl rfl rfl rfl rfl<|wx h.tc fun _=>?_;have f:Tg C (sP M.bH) (if a.F4=true then pG C (M.bR i) (a.dD/2) (a.dD % 2) (M.bL i<|a.dD/2/2) else M.bR i):=by
   split;exact(h.tc i t).F4 g;exact h.tc i t
  have w:iH C (if a.F4=true then pG C (M.bR i) (a.dD/2) (a.dD % 2) (M.bL i<|a.dD/2/2) else M.bR i):=by
   split;exact Iv g;exact g
  split;exact f.iV w;exact f
theorem En.step (j:cX C N M) (p:RY C M V) (h:En C M):En C (M.step C a).1:=by
 rw[bU.step];by_cases f:0<=a/\a<C.aB;rotate_left;grind;rw[bD1 fun e=>e f];dsimp only;obtain⟨i,rfl⟩:=ay f.1;rw[aL];split;exact h;split;exact h;split;refine h.jA (fun g=>?_) rfl rfl rfl rfl rfl h.tc;cases hw:(M.aT i).dM with
 |false=>rfl
 |true=>
  have⟨b,hb,_⟩:=h.w1 i g hw;grind[aFx]
 split;rename_i k d;exact h.call j d;split;rename_i k d;exact h.eK j p f.2 d;exact h
end Go.Mc
namespace Go.Pc
open Go.Hm Go.Ct
variable {C:bQ} {r:bT} {n:aG} {m:Ln} {aI:Int}
theorem aH7 {H:nC} {x:aG} (b:x∈(eW C H n).2.1):x.kind=8:=by
 rw[eW] at b;split at b;cases b;split at b;rw[iN.take] at b;split at b;grind;split at b;split at b;cases b;exact(Oz (r:=(H n.aI.toNat).1) (m:=(H n.aI.toNat).2) x b).1;cases b;cases b
theorem aR2 {core:Int} {s:jR}:∀x∈(fP C core s n).2.1,x.kind=4\/x.kind=5:=by
 intro x b;have e:∀y,(iS core n y).kind=5:=fun y=>by grind[iS]
 grind[fP,vM,Bm,rU,lK]
end Go.Pc
variable {d w:Nat}
namespace Go.Mc
open Go.Hm Go.At Go.Is Go.Ct Go.Nt Go.Pc
variable {C:bQ} {M M':bU} {V V':Nat->Ln} {L:IT}
section
variable {n:aG}
theorem kq {c:jO} {w:Int} (h:(c.fM C a w).1.dM=true):c.dM=true/\(c.fM C a w).1.aR=c.aR:=by
 rw[jO.fM] at h ⊢;split;grind;rename_i e;rw[bD1 e] at h;refine⟨IH,?_⟩;split;rfl;rename_i e2;rw[bD1 e2] at h;split;rfl;rename_i b;rw[bD1 b] at h;dsimp only at h ⊢;split;rfl;rename_i d;rw[bD1 d] at h;split;rfl;rename_i f;rw[bD1 f] at h;split;rfl;rename_i g;rw[bD1 g] at h;cases h
theorem xF {c:jO} {g:Int}:(c.drop C g).1.dM=c.dM/\(c.drop C g).1.aR=c.aR:=by
 grind[jO.drop]
def aJc {m:Mon} {aB g core:Int}:sP (m.eE aB g core).1=sP m:=by
 rw[Mon.eE];split;rfl;split;rfl;split;rfl;split<;>rfl
theorem Yz {H:nC}:∃w,((jT C H l).1 k).1={(H k).1 with aH:=w}:=by
 rw[jT];split;dsimp only;by_cases e:k=l.toNat;subst e;rw[cR];exact⟨_,rfl⟩;rw[Ab.bO e];grind;grind
theorem sx {H:nC} {g:Int}:∃w,(oE C H g k).1={(H k).1 with aH:=w}:=by
 rw[oE];have⟨w1,e1⟩:=Yz (C:=C) (H:=(jT C H<|g*2).1) (l:=g*2+1) (k:=k);have⟨w2,e2⟩:=Yz (C:=C) (H:=H) (l:=g*2) (k:=k);grind
theorem En.dF (hC:C.Ok) (Q:cX C N M) (T:(dR C M.cD).Perm (n::L)) (S:Nt.gG C n=0) (J:RY C M V) (h:En C M) (b:(M.dF C n).2.2=0):
  ∀F:eO,(dR C F).Perm ((M.dF C n).2.1++L)->En C ((M.dF C n).1.bM F):=by
 intro F hF
 have p:=J.rY.cI T
 have⟨hik,hco⟩:=fJ S
 have⟨i,hi⟩:=ay hco.1
 have hit:n.core.toNat=i:=FQ
 have u:(i:Int)<C.aB:=FQ
 have R:=hC.1
 have X:∀x∈L,x.kind=8->x.aY=sP M.bH x.aI.toNat:=fun x g=>h.tg x FR
 have q:∀{out:IT} {m:Mon},sP m=sP M.bH->(dR C F).Perm (out++L)->(∀x∈out,x.kind=8->x.aY=sP M.bH x.aI.toNat)->∀x∈dR C F,x.kind=8->x.aY=sP m x.aI.toNat:=fun em U A x g f=>by
  rw[em];grind
 rw[bU.dF] at b hF ⊢
 by_cases K:n.kind=1\/n.kind=2\/n.kind=3\/n.kind=4\/n.kind=5
 .rw[bD2 K] at b hF ⊢;have z:=p.nb n FR HA;have⟨k,hk⟩:=ay z.2.1;have y:k<C.aF:=FQ
  have e:eW C M.aJ n=(bA M.aJ k (iN.take (M.aJ k) n.aI n).1,(iN.take (M.aJ k) n.aI n).2):=by
   rw[eW];rw[bD1<|by grind[Hm.dF],bD2 ⟨z.1,GL⟩,show n.aI.toNat=k by omega]
  have⟨E,out,hh,_,A,_⟩:=p.aMq hC FQ
  rw[e] at hF hh ⊢
  have G:=aPs (n:=n) (m:=(M.aJ k).2) (l:=n.aI) (h.tr k y) ((J.rY.aI k y).iU) FQ
  constructor
  .exact h.w1
  .exact h.tc
  .refine q rfl hF fun x g f=>?_;have H:=G.2 x g f;grind
  .intro l t;dsimp only;by_cases e2:l=k
   .grind[cR]
   .rw[Ab.bO e2];exact h.tr l t
  .intro l t;dsimp only;by_cases e2:l=k
   .subst e2;rw[cR];exact(h.bz l t).take
   .rw[Ab.bO e2];exact h.bz l t
 rw[bD1 K] at b hF ⊢
 by_cases O:n.kind=8\/n.kind=9\/n.kind=10\/n.kind=11
 .rw[bD2 O] at b hF ⊢;rw[hit] at b hF ⊢;refine⟨h.w1,?_,?_,h.tr,h.bz⟩
  .exact wx h.tc fun _=>(h.tc i u).take (Q.Pp i u) (p.nb n FR HA).2 (fun f=>h.tg n FR f) b
  grind[aR2]
 rw[bD1 O] at b hF ⊢
 by_cases P:n.kind=6
 .rw[bD2 P] at b hF ⊢;exact⟨h.w1,h.tc,q rfl hF fun x g f=>(by rw[aV.1 g] at f;cases f),h.tr,h.bz⟩
 rw[bD1 P] at b hF ⊢
 by_cases B:n.kind=12
 .rw[bD2 B] at b hF ⊢;dsimp only at b hF ⊢;rw[hit] at hF ⊢;refine⟨fun j v d=>?_,h.tc,q rfl hF fun x g f=>?_,h.tr,h.bz⟩
  .dsimp only at d ⊢;by_cases e:j=i
   .subst e;rw[cR] at d ⊢;have⟨h1,H⟩:=kq d;rw[H];exact h.w1 j v h1
   .rw[Ab.bO e] at d ⊢;exact h.w1 j v d
  .split at g
   .cases g
   .rw[aV.1 g] at f;cases f
 rw[bD1 B] at b hF ⊢
 by_cases D:n.kind=13
 .rw[bD2 D] at b hF ⊢;rw[hit];refine⟨fun j v d=>?_,h.tc,q rfl hF fun x g f=>(by rw[aV.1 g] at f;cases f),h.tr,h.bz⟩;dsimp only at d ⊢;by_cases e:j=i
  .subst e;rw[cR] at d ⊢;rw[xF.2];rw[xF.1] at d;exact h.w1 j v d
  .rw[Ab.bO e] at d ⊢;exact h.w1 j v d
 rw[bD1 D] at b hF ⊢
 by_cases W:n.kind=7
 rotate_left
 .grind
 rw[bD2 W] at b hF ⊢
 dsimp only at b hF ⊢
 rw[hT] at hF
 have A:sP (M.bH.eE C.aB n.no n.core).1=sP M.bH:=aJc
 have Y:∀{F':eO} {E:nC},(dR C F').Perm L->(∀l,∃w,(E l).1={(M.aJ l).1 with aH:=w})->En C {M with bH:=(M.bH.eE C.aB n.no n.core).1,aJ:=E,cD:=F'}:=by
  intro F' E U I;refine⟨h.w1,?_,?_,?_,?_⟩;rw[A];exact h.tc;intro x g f;rw[A];grind;intro l t;rw[A];have⟨w,d⟩:=I l;rw[d];exact h.tr l t;intro l t;have⟨w,d⟩:=I l;rw[d];exact h.bz l t
 split
 .simp_all[sx]
 grind
def En.Hk (hC:C.Ok) (d:cX C N M) (g:RY C M V) (h:En C M) {b:Int}:En C (M.dE C a b c).1:=by
 unfold bU.dE;dsimp only;split;exact h;rename_i f;have e:=Dl<|cb.1 f;split;exact h;split;exact h;exact h.dF hC d e (E0 d.cD<|e.mem_iff.2 eg).gG g FQ _<|(gM FQ).1
theorem aCl {l:Nat} (b:l<C.aF) {w:Int} (h:(M.gE C (l:Int) w).2=true):(M.gE C (l:Int) w).1=sP M.bH l:=by
 rw[bU.gE] at h ⊢;simp_all[bD2,bQ.kJ,sP]
theorem En.Eg (v:RY C M V) (h:En C M):En C (M.dJ C a).1:=by
 unfold bU.dJ;by_cases g:C.kJ a;rotate_left;simp_all[bD2,eQ];obtain⟨k,rfl⟩:=ay g.1;have d:k<C.aF:=by have:=g.2;omega
 have e:eQ C M.aJ (k:Int) (M.gE C (k:Int))=(bA M.aJ k (iN.dJ (M.aJ k) (k:Int)<|M.gE C (k:Int)).1,(iN.dJ (M.aJ k) (k:Int)<|M.gE C (k:Int)).2):=by
  rw[eQ];rw[bD2 g];rfl
 have⟨H',out,e0,he,_,ho,_⟩:=v.rY.Eg (l:=(k:Int)) (j:=M.gE C (k:Int));rw[e] at he ⊢;dsimp only;have i:(iN.dJ _ _ _).2.1=out:=eV (fun x=>x.2.1) he;have u:=v.rY.aI k d;have z:RT (sP M.bH k) (iN.dJ (M.aJ k) (k:Int)<|M.gE C (k:Int)).1.1/\OT (sP M.bH k) (iN.dJ (M.aJ k) (k:Int)<|M.gE C (k:Int)).2.1/\Bsy (iN.dJ (M.aJ k) (k:Int)<|M.gE C (k:Int)).1.1:=by
  rw[iN.dJ];by_cases b:(M.aJ k).1.busy=true;rw[bD2 b];exact⟨h.tr k d,(fun y q=>(by cases q)),h.bz k d⟩;rw[bD1 b];have b:(M.aJ k).1.busy=false:=HN
  cases hw:(M.aJ k).1.aH with
  |nil=>exact⟨h.tr k d,(fun y q=>(by cases q)),h.bz k d⟩
  |cons n w=>
   have p:=aL6 (l:=(k:Int)) (m:=(M.aJ k).2) (r:=(M.aJ k).1.next w) (j:=M.gE C _) (u.iU.aH n FR).2.2 b fun x f=>aCl d f;exact⟨p.1,p.2,Bsy.eY b u.iU.owner⟩
 split;exact h;split;exact h;rename_i p;refine⟨h.w1,h.tc,fun x f t=>?_,fun l g=>?_,fun l g=>?_⟩;rcases cg.1 (((gM<|cb.1 p).1).mem_iff.1 f) with f|f;rw[z.2.1 x f t,(ho x<|i▸f).1,aL];exact h.tg x f t;dsimp only;by_cases e2:l=k;grind[cR];rw[Ab.bO e2];exact h.tr l g;dsimp only;by_cases e2:l=k;grind[cR];rw[Ab.bO e2];exact h.bz l g
theorem Mg (h:RY C M V) (hC:C.Ok) (j:cX C N M) (k:Dh M) (b:(M.gH C a).2≠0):(M.gH C a).1=M:=by
 rw[bU.gH] at b ⊢;by_cases e:¬(0<=a/\a<C.aM);grind;rw[bD1 e] at b ⊢;by_cases i:M.gX C a=false;grind;rw[bD1 i] at b ⊢;dsimp only at b ⊢;cases ho:(M.bH.over a).2.1 with
 |none=>rfl
 |some r=>
  obtain⟨g,rfl⟩:=ay (cb.1 e).1;have f:M.bH.run g=M.bH.eI g:=by rw[Mon.run];rw[aac,aL]
  have d:M.bH.eI g=some r:=by
   rw[Mon.over] at ho;grind
  have p:=h.uC g r d;grind[aAc,D6,bU.bK]
theorem En.Gd (hC:C.Ok) (y:cX C N M) (S:Dh M) (p:RY C M V) (h:En C M):En C (M.gH C a).1:=by
 by_cases K:(M.gH C a).2=0;rotate_left;grind[Mg];obtain⟨g,r,rfl,z,E,U,I,J⟩:=Rv p K;rw[J];have D:=y.bH.len;have Q:=(y.bH.run g r E).2.1;have T:=oK z;have V0:∀l:Nat,l/2≠g->sP ((M.bH.oL r.aR.toNat ⟨r.kB,false⟩).dL g none) l=sP M.bH l:=fun l P=>by
  show((M.bH.oL r.aR.toNat ⟨r.kB,false⟩).jX ((l/2:Nat):Int)).owner=_;rw[Ia FQ FQ,aaa];rfl
 have f:∀l:Nat,l/2=g->l<C.aF/\Pc.vQ (M.aJ l).1:=FR;have t:((r.core.toNat:Nat):Int)<C.aB->(M.aT r.core.toNat).dM=false:=fun v=>by
  cases hw:(M.aT r.core.toNat).dM with
  |false=>rfl
  |true=>
   have⟨b,q,_⟩:=h.w1 _ v hw;rw[Rq (p.uC g r E).1] at q;cases q
 have u:∀{H':nC},(∀l,(H' l).1=(M.aJ l).1)->En C {M with bH:=(M.bH.oL r.aR.toNat ⟨r.kB,false⟩).dL g none,aJ:=H'}:=by
  intro H' B;refine⟨h.w1,fun i v l d k=>?_,fun x A w=>?_,fun l d=>?_,fun l d=>by rw[B];exact h.bz l d⟩;by_cases e:l/2=g;have⟨_,hc⟩:=f l e;have⟨j,_⟩:=(p.rY.aI l d).aMo hc;have H:=hC.1;have G:=j i FQ;have R:=uR (y.Pp i v).aU k;unfold HH F7 at G;have w:(rZ C M.bR l i).st=(bJ C.aU.toNat (M.bR i).S l).1.st:=by
   show(dS C.aU.toNat _ l).st=_;rw[Jh,bD2 k]
  grind;rw[V0 l e];exact h.tc i v l d k;have O:=p.rY.nb x A HA;by_cases e:x.aI.toNat/2=g;exfalso;have⟨d,hc⟩:=f _ e;have⟨_,h2⟩:=(p.rY.aI _ d).aMo hc;exact(h2 x<|zL.2 ⟨A,FQ,.inr FQ⟩).1 w;rw[V0 _ e];exact h.tg x A w;rw[B];by_cases e:l/2=g;intro q;rw[(f l e).2.busy] at q;cases q;rw[V0 l e];exact h.tr l d
 split;have j:=u (H':=nP M.aJ r.aR) fun l=>by grind[nP]
 exact j.ret t rfl rfl rfl rfl rfl j.tc;have j:=u fun l=>rfl;exact j.ret t rfl rfl rfl rfl rfl j.tc
def En.mC (hC:C.Ok) (e:cX C N M) (f:Dh M) (b:RY C M V) (h:En C M) {d:Do}:En C (M.mC C d).1:=by
 rw[bU.mC];split;exact h.step e b;split;exact h.Hk hC e b;split;exact h.Eg b;split;exact h.Gd hC e f b;exact h
theorem En.kT {c:MC} (hc:c.C=C):En C (MC.kT c) where
 w1:=fun _ _ f=>by cases f
 tc:=fun _ _ l _ e=>absurd e kr
 tg:=fun x g=>by
  obtain⟨_,_,_,_,⟨⟩⟩:=uM g
 tr:=fun l d b=>by
  have:(sQ c.C.aF l).1.busy=true:=b;rw[sQ] at this;split at this<;>cases this
 bz:=fun l d b=>by
  have:(sQ c.C.aF l).1.busy=true:=b;rw[sQ] at this;split at this<;>cases this
end
variable {L':IT}
section
def eZ (f:Nat->Nat):Nat->Nat
 |0=>0
 |n+1=>eZ f n+f n
theorem iI {f g:Nat->Nat}:∀{n:Nat},(∀i,i<n->f i<=g i)->eZ f n<=eZ g n
 |0,_=>bb _
 |n+1,h=>FD (iI FR) FR
theorem nL {f g:Nat->Nat} (h:∀i,i<n->f i=g i):eZ f n=eZ g n:=
 Nat.le_antisymm (iI FR) (iI FR)
theorem pS {f g:Nat->Nat} {k:Nat}:∀{n:Nat},k<n->(∀i,i<n->i≠k->f i=g i)->eZ f n+g k=eZ g n+f k
 |0,h,_=>FQ
 |n+1,h,b=>by
  show eZ f n+f n+g k=eZ g n+g n+f k;by_cases e:k=n;grind[nL];have:=pS (n:=n) FQ fun i d=>b i FQ;grind
theorem rE {f g:Nat->Nat} {k:Nat}:∀{n:Nat},k<n->(∀i,i<n->i≠k->f i<=g i)->eZ f n+g k<=eZ g n+f k
 |0,h,_=>FQ
 |n+1,h,b=>by
  show eZ f n+f n+g k<=eZ g n+g n+f k;by_cases e:k=n;subst e;have:=iI (n:=k) fun i d=>b i FQ FQ;omega;have:=rE (n:=n) FQ fun i d=>b i FQ;grind
theorem aBj {f:Nat->Nat} {k:Nat}:∀{n:Nat},k<n->f k<=eZ f n
 |0,h=>FQ
 |n+1,h=>by
  show f k<=eZ f n+f n;by_cases e:k=n;grind;have:=aBj (f:=f) (k:=k) (n:=n) FQ;omega
def qZ (C:bQ) (s:aQ):Option vT:=match aQ.iG s with
 |some a=>if 0<=a.dD/\a.dD<C.aF*2 then some a else none
 |none=>none
def fC (m:Mon) (g:Int):Bool:=(m.jX g).lB
def vS (k:jO) (g:Int):Bool:=(jC k.bL g).isSome
abbrev vT.aI (a:vT):Int:=a.dD/2
abbrev vT.aR (a:vT):Int:=a.dD/2/2
def yY (C:bQ) (s:aQ) (k:jO) (m:Mon):Bool:=match qZ C s with
 |some a=>fC m a.aR&&vS k a.aR
 |none=>false
abbrev uK (C:bQ) (M:bU) (c:Nat):Bool:=yY C (M.aD c) (M.aT c) M.bH
def yE (C:bQ) (k:jO) (n:aG):Int×mV×Bool×Int:=lU C.aM k.aR n.no n.d0
def pJ (C:bQ) (k:jO) (n:aG):Bool:=decide (n.kind=12)&& !k.kG&&(yE C k n).2.2.1&& !(yE C k n).2.1.lB
def bV (C:bQ) (M:bU) (n:aG):Bool:=
 if n.kind=6\/n.kind=12 then fC M.bH (M.aT n.core.toNat).aR&& !pJ C (M.aT n.core.toNat) n
 else if n.kind=1\/n.kind=2\/n.kind=9 then fC M.bH (n.aI/2)&&uK C M n.core.toNat
 else false
def Bn (C:bQ) (k:jO) (n:aG):Nat:=
 34+(if k.at'=k.aR/4 then 2 else 0)+(if n.kind=6 then 2+(if k.kG then 4 else 0) else 1+(if k.kG||((yE C k n).2.2.1&&(yE C k n).2.1.lB) then 4 else 0))
def Qv (k:Int):Nat:=if k=8 then 14 else if k=11\/k=13 then 2 else if k=1\/k=2 then 32 else if k=3 then 10 else if k=4\/k=5\/k=7\/k=9\/k=10 then 1 else 0
def nW (C:bQ) (M:bU) (n:aG):Nat:=if bV C M n then 0 else if n.kind=6\/n.kind=12 then Bn C (M.aT n.core.toNat) n else Qv n.kind
def nQ (C:bQ) (M:bU) (L:IT):Nat:=(L.map<|nW C M).sum
def jS (C:bQ) (M:bU) (n:aG):Bool:= !bV C M n
def e2 (C:bQ) (M:bU):IT->Nat
 |[]=>0
 |n::l=>if n.kind=12 then l.countP (jS C M) else e2 C M l
def B0 (C:bQ) (M:bU) (n:aG):Nat:=if bV C M n then 0 else if n.kind=1\/n.kind=2 then 26 else if n.kind=3 then 4 else 10
def gC (C:bQ) (M:bU):IT->Nat
 |[]=>0
 |n::l=>B0 C M n+gC C M l+l.countP (jS C M)
def oN (r:bT):Nat:=if r.busy=true/\r.cJ=false then(if r.aX.kind=0 then 1 else 17) else 0
def mK (C:bQ) (M:bU) (r:bT):Nat:=gC C M r.aH+oN r
def ij (o:Int) (c:Nat) (l:Int) (n:aG):Bool:=decide<|n.core=(c:Int)/\n.aI=l/\(n.kind=9\/(n.kind=1\/n.kind=2)/\yM n.aY o=false)
def tR (C:bQ) (M:bU) (c:Nat) (a:vT):Bool:=
 (M.bR c).pM&&decide ((M.bR c).al=a.aI)&&(!a.iV||(M.bR c).aw)&&vS (M.aT c) a.aR&&yM (M.aD c).aY (M.bH.jX a.aR).owner&&
 !((dR C M.cD).any<|ij (M.bH.jX a.aR).owner c a.aI)&& !((M.aJ a.aI.toNat).1.aH.any<|ij (M.bH.jX a.aR).owner c a.aI)
def mX (C:bQ) (s:jR) (l:Int):Nat:=if(kR C.aU.toNat C.ways.toNat s.S l).isSome then 12 else 0
def hM (C:bQ) (M:bU) (c:Nat):Nat:=match qZ C (M.aD c) with
 |some a=>mX C (M.bR c) a.aI+(if fC M.bH a.aR then(if vS (M.aT c) a.aR then 34 else 0)
   else(if vS (M.aT c) a.aR then 34 else if(M.aT c).dM then 0 else 40)+(if tR C M c a then 0 else 34))
 |none=>if(aQ.xW (M.aD c) c).isSome&& !M.bH.gZ c then 40 else 0
def Cg (m:Mon) (g:Nat):Nat:=match m.eI g with
 |some r=>if r.phase=1 then 30 else 0
 |none=>0
def Mq (C:bQ) (M:bU):Nat:=eZ (hM C M) C.aB.toNat
def Qk (C:bQ) (M:bU):Nat:=eZ (fun c=>e2 C M<|M.cD c 2) C.aB.toNat
def Qn (C:bQ) (M:bU):Nat:=eZ (fun l=>mK C M (M.aJ l).1) C.aF
def da (C:bQ) (M:bU):Nat:=eZ (Cg M.bH) C.aM.toNat
def ph (C:bQ) (M:bU):Nat:=Mq C M+nQ C M (dR C M.cD)+Qk C M+Qn C M+da C M
variable {n:aG}
theorem tA:nQ C M (L++L')=nQ C M L+nQ C M L':=by unfold nQ;simp
theorem hZ:nQ C M (n::L)=nW C M n+nQ C M L:=by unfold nQ;simp
def lY (h:L.Perm L'):nQ C M L=nQ C M L':=(h.map<|nW C M).sum_nat
theorem rG (b:M'.aD=M.aD) (e2:M'.aT=M.aT) (d:M'.bH=M.bH):bV C M'=bV C M:=by
 funext n;simp_all[bV,uK]
def q8 (b:M'.aD=M.aD) (e2:M'.aT=M.aT) (d:M'.bH=M.bH):nW C M'=nW C M:=by
 unfold nW;rw[rG b e2 d,e2]
def B7 (h:bV C M'=bV C M):jS C M'=jS C M:=by
 unfold jS;rw[h]
def Sk (h:bV C M'=bV C M):∀l,Mc.e2 C M' l=Mc.e2 C M l
 |[]=>rfl
 |n::l=>by
  unfold Mc.e2;rw[B7 h,Sk h l]
theorem sN (h:bV C M'=bV C M):∀l,gC C M' l=gC C M l
 |[]=>rfl
 |n::l=>by
  unfold gC B0;rw[B7 h,sN h l,h]
theorem Pg:∀{l:IT},gC C M (l++[n])=gC C M l+B0 C M n+(if jS C M n then l.length else 0)
 |[]=>by simp[gC]
 |m::l=>by
  rw[gg];unfold gC;rw[Pg,AK];grind
end
variable {F:eO}
section
variable {n:aG} {l:IT} {F':eO}
theorem aJ6 (h:n.kind≠12):∀{l:IT},Mc.e2 C M (l++[n])<=Mc.e2 C M l+(if jS C M n then 1 else 0)
 |[]=>by
  simp_all[Mc.e2,bD1,og]
 |m::l=>by
  rw[gg];unfold Mc.e2;split;grind;exact aJ6 h
theorem z8:∀{l:IT},(∀x∈l,x.kind≠12)->Mc.e2 C M l=0
 |[],_=>rfl
 |m::l,h=>by
  rw[Mc.e2,bD1 FR];exact z8 FR
theorem aLf (h:∀x∈l,x.kind≠12):Mc.e2 C M (l++[n])=0:=by
 induction l with
 |nil=>
  grind[Mc.e2]
 |cons m l b=>
  grind[Mc.e2]
theorem aPr:Mc.e2 C M l<=Mc.e2 C M (n::l):=by
 conv=>rhs;unfold Mc.e2
 split;induction l with
 |nil=>exact bb _
 |cons m l b=>
  grind[Mc.e2]
 grind
def yA (C:bQ) (M:bU) (F:eO):Nat:=eZ (fun c=>Mc.e2 C M<|F c 2) C.aB.toNat
theorem aTu (hc:0<=n.core/\n.core<C.aB) (h:n.kind≠12):yA C M (F.A9 n)<=yA C M F+(if cQ n=2/\jS C M n=true then 1 else 0):=by
 unfold yA;have b:=pS (f:=fun c=>Mc.e2 C M<|(F.A9 n) c 2) (g:=fun c=>Mc.e2 C M<|F c 2) (k:=n.core.toNat) (n:=C.aB.toNat) FQ fun i _ j=>by
  simp_all[eO.A9,eO.set]
 have d:Mc.e2 C M ((F.A9 n) n.core.toNat 2)<=Mc.e2 C M (F n.core.toNat 2)+(if cQ n=2/\jS C M n=true then 1 else 0):=by
  unfold eO.A9 eO.set;by_cases e:cQ n=2;simp_all[bD2,aJ6];grind
 omega
theorem aOs:∀{l:IT} {F F':eO},(∀x∈l,Nt.gG C x=0)->(∀x∈l,x.kind≠12)->eO.sE C.eR F l=some F'->yA C M F'<=yA C M F+l.countP (fun x=>decide<|cQ x=2/\jS C M x=true):=by
 intro l;induction l with
 |nil=>intro F F' _ _ h;cases h;grind
 |cons n l b=>
  grind[eO.sE,fJ,List.mem_cons_self,List.mem_cons_of_mem,aTu]
theorem Ir (h:(F.gJ C l).2=0) (d:∀x∈l,x.kind≠12):yA C M (F.gJ C l).1<=yA C M F+l.countP (fun x=>decide<|cQ x=2/\jS C M x=true):=by
 rw[eO.gJ] at h ⊢;by_cases b:aT C l≠0;grind;rw[bD1 b] at h ⊢;split at h;rename_i F' e;exact aOs (C8 HN) d e;cases h
theorem sS (h:(F.gJ C [n]).2=0):(F.gJ C [n]).1=F.A9 n/\((F n.core.toNat<|cQ n).length:Int)<C.eR/\Nt.gG C n=0:=by
 rw[eO.gJ] at h ⊢;by_cases b:aT C [n]≠0;grind;rw[bD1 b] at h ⊢;unfold eO.sE at h ⊢;by_cases d:((F n.core.toNat<|cQ n).length:Int)<C.eR;rw[bD2 d] at h ⊢;exact⟨rfl,d,C8 HN n FW⟩;grind
theorem W4 {c:Nat} {m:aG} {l:IT} (hc:(c:Int)<C.aB) (b:w<4) (h:F c w=m::l):F.take C (c:Int) (w:Int) 0=(F.set c w l,m,0):=by
 rw[eO.take,aaa];simp_all
theorem Ls {c:Nat} (hc:(c:Int)<C.aB) {l:IT} (h:F c w=n::l):yA C M (F.set c w l)<=yA C M F:=by
 refine iI fun i b=>?_;grind[eO.set,aPr]
end
variable {m:Ln} {r:bT} {x:Option Mc.mP}
section
variable {n:aG}
def ez (n:aG):Bool:=decide<|n.kind=0
def qY (r:bT):Nat:=(if r.busy=true/\r.aX.kind=0 then 1 else 0)+r.aH.countP ez
def ph2 (m:Mon) (g:Nat):Nat:=match m.eI g with
 |some r=>if r.phase=2 then 1 else 0
 |none=>0
structure Sw (C:bQ) (M:bU):Prop where
 sw:∀l:Nat,l<C.aF->qY (M.aJ l).1<=ph2 M.bH (l/2)
theorem I8 (h:r.busy=false):qY r=r.aH.countP ez:=by
 rw[qY];grind
theorem Zz:r.aH.countP ez<=qY r:=by rw[qY];grind
theorem o6 (h:r.aX.kind≠0):qY r=r.aH.countP ez:=by
 rw[qY];grind
theorem Ly {d:Ln}:(r.dW l d).1.aX=r.aX:=by
 grind[bT.dW]
theorem aFb (d:1<=n.kind/\n.kind<=5):qY (iN.take (r,m) l n).1.1<=qY r:=by
 rw[iN.take];split;split;grind;rw[I8 rfl];exact Zz (r:=r);split;split;grind;have⟨_,k2,_,k4⟩:=Et (r:=r) (n:=n);have e:=Pc.mF (r:=r) (n:=n);unfold iN.nH bT.rest;split;split;rw[I8 rfl];show(r.dA n).aH.countP ez<=_;grind[Zz];grind[o6,Ly,Pc.kA,Zz];grind[qY];show _+(r.aH++[n]).countP ez<=_;have b:ez n=false:=cr FQ;rw[AK,l9,List.countP_nil,b];exact bb _
theorem uz {w:IT} (hb:r.busy=false) (q:r.aH=n::w):qY (bT.eY (r.next w) l m n j).1.1<=qY r:=by
 have k:qY r=(if ez n=true then 1 else 0)+w.countP ez:=by
  rw[I8 hb,q,l9];omega
 have Qw:∀{b:bT},b.busy=false->b.aH=w->qY b<=qY r:=fun g e2=>by
  grind[I8]
 have e:∀{b:bT},b.aX.kind≠0->b.aH=w->qY b<=qY r:=fun g e2=>by
  grind[o6]
 rw[bT.eY];split;exact Qw hb rfl;split;have f:n.kind≠0:=FQ
 split;have i:∀{b:bT} {d:Ln},b.aX=n->b.aH=w->qY (b.dW l d).1<=qY r:=fun {b d} g e2=>by
  grind[Ly,Pc.kA]
 unfold bT.get;split;rw[bT.La];split;exact e f rfl;exact i rfl rfl;have p:(((r.next w).iL n (j n.aY).1).jY).aX=n/\(((r.next w).iL n (j n.aY).1).jY).aH=w:=by rw[bT.jY];split<;>exact⟨rfl,rfl⟩
 rw[bT.J2];split;exact e (by show(((r.next w).iL n _).jY).aX.kind≠0;grind) p.2;grind;exact Qw hb rfl;split;exact Qw hb rfl;rw[k];show(if(true:Bool)=true/\n.kind=0 then 1 else 0)+w.countP ez<=_;by_cases h:n.kind=0;rw[bD2 ⟨rfl,h⟩,bD2<|show ez n=true from cj h];grind;grind
theorem aA8 {k:Nat}:∀{l:IT},(∀x∈l,x.aI=(k:Int)/\(0<=x.core/\x.core<4)/\(x.kind=0\/x.kind=1\/x.kind=2\/x.kind=3))->
  l.length<=l.countP ez+(fS 1 0 k l+fS 2 0 k l+fS 3 0 k l)+(fS 1 1 k l+fS 2 1 k l+fS 3 1 k l)+(fS 1 2 k l+fS 2 2 k l+fS 3 2 k l)+(fS 1 3 k l+fS 2 3 k l+fS 3 3 k l)
 |[],_=>FW
 |x::l,h=>by
  have e:=aA8 fun y b=>h y<|aW _ b;have⟨h1,h2,h3⟩:=h x FR;simp only[dU,l9,js,ez,AG];have d:x.core=((0:Nat):Int)\/x.core=((1:Nat):Int)\/x.core=((2:Nat):Int)\/x.core=((3:Nat):Int):=FQ
  grind
theorem Iq {l:Nat} {c:CLs} {v:Ln} (h:Pc.fT l r m v c L) (d:qY r<=1):r.aH.length<=5:=by
 have e:=aA8 h.iU.aH;have f:r.aH.countP ez<=1:=by rw[qY] at d;omega
 have Fh:∀i,i<4->fS 1 i l r.aH+fS 2 i l r.aH+fS 3 i l r.aH<=1:=fun i b=>by
  have t1:=h.t1 i b;have t2:=h.t2 i b;have ex:=h.ex i b;cases ha:(c i).qP<;>cases hg:(c i).gi<;>grind<;>omega
 grind
theorem iJ:(M.bK i v c).1.aJ=M.aJ/\(M.bK i v c).1.bH=M.bH/\(M.bK i v c).1.aT=M.aT/\(M.bK i v c).1.bR=M.bR/\(M.bK i v c).1.cD=M.cD:=by
 grind[bU.bK]
theorem P0 {a:vT}:(M.eK C i a).1.aJ=M.aJ/\(M.eK C i a).1.bH=M.bH:=by
 rw[bU.eK];split;exact⟨iJ.1,iJ.2.1⟩;dsimp only;split;exact⟨rfl,rfl⟩;split;unfold bU.Bk;grind;split;exact⟨iJ.1,iJ.2.1⟩;split;unfold bU.fY;grind;exact⟨iJ.1,iJ.2.1⟩
theorem Sw.qD (h:Sw C M) (b:M'.aJ=M.aJ) (e2:M'.bH=M.bH):Sw C M':=⟨by rw[b,e2];exact h.sw⟩
def Mh {k:Mon} {b:Nat}:ph2 (k.dL g x) b=if b=g then(match x with|some r=>if r.phase=2 then 1 else 0|none=>0) else ph2 k b:=by
 show(match bA k.eI g x b with|some r=>_|none=>_)=_;by_cases e:b=g;subst e;rw[cR,bD2 rfl];rw[Ab.bO e,bD1 e];rfl
theorem Sw.call (f:cX C N M) (h:Sw C M) {a:Mc.Np}:Sw C (M.call C i a).1:=by
 unfold bU.call;dsimp only;split;exact h.qD iJ.1 iJ.2.1;rename_i b;split;exact h;have b:=cb.1 b;refine⟨fun l j=>?_⟩;apply cL<|h.sw l j;rw[Mon.call] at b ⊢;split at b;cases b;split at b;cases b;split at b;cases b;split at b;cases b;dsimp only at b;split at b;grind;rename_i a1 d a3 a4 a5;rw[bD1 a1,bD1 d,bD1 a3,bD1 a4];rw[bD1 a5];have g:=cb.1 d;rw[Mon.kJ] at g;have e:=cb.1 a3;rw[show a.aR=((a.aR.toNat:Nat):Int) by omega] at e;have k:=x5 f e;rw[Mh];split;rw[ph2];grind;exact bb _
def Sw.step (b:cX C N M) (h:Sw C M):Sw C (M.step C a).1:=by
 rw[bU.step];split;exact h;dsimp only;split;exact h;split;exact h;split;exact h.qD rfl rfl;split;exact h.call b;split;exact h.qD P0.1 P0.2;exact h
theorem um:qY (r.lE<|pQ l)=qY r+1:=by
 unfold qY;show _+(r.aH++[pQ l]).countP ez=_;have:ez (pQ l)=true:=rfl;show(if r.busy=true/\r.aX.kind=0 then 1 else 0)+_=_;grind
theorem Sw.dF (hC:C.Ok) (H:cX C N M) (B:Nt.gG C n=0) (h:Sw C M) (b:(M.dF C n).2.2=0):Sw C (M.dF C n).1:=by
 rw[bU.dF] at b ⊢;by_cases v:n.kind=1\/n.kind=2\/n.kind=3\/n.kind=4\/n.kind=5;rw[bD2 v] at b ⊢;refine⟨fun l d=>?_⟩;rw[eW];split;exact h.sw l d;split;dsimp only;by_cases e:l=n.aI.toNat;subst e;rw[cR];exact cL (aFb FQ)<|h.sw _ d;rw[Ab.bO e];exact h.sw l d;exact h.sw l d;rw[bD1 v] at b ⊢;by_cases w:n.kind=8\/n.kind=9\/n.kind=10\/n.kind=11;rw[bD2 w];exact h.qD rfl rfl;rw[bD1 w] at b ⊢;by_cases D:n.kind=6;grind;rw[bD1 D] at b ⊢;by_cases k:n.kind=12;rw[bD2 k];exact h.qD rfl rfl;rw[bD1 k] at b ⊢;by_cases p:n.kind=13;rw[bD2 p];exact h.qD rfl rfl;rw[bD1 p] at b ⊢;by_cases x:n.kind=7;rotate_left;grind;rw[bD2 x] at b ⊢;have i:=Ky B<|.inl x;have⟨g,hg⟩:=ay i.1;have q:(g:Int)<C.aM:=FQ
 have A:=oK q;have j:M.bH.run n.no=M.bH.eI g:=by rw[Mon.run];rw[bD2 i.1,hg,aL]
 rw[Mon.eE] at b ⊢;split;grind;rename_i a1;rw[j] at b ⊢;cases hr:M.bH.eI g with
 |none=>grind
 |some r=>
  dsimp only at b ⊢;split;grind;split;grind;have f:n.no.toNat=g:=FQ
  have z:∀l:Nat,l/2=g->l<C.aF->qY (M.aJ l).1=0:=fun l e d=>by
   have E:=h.sw l d;grind[ph2]
  split;rename_i t;refine⟨fun l d=>?_⟩;dsimp only;rw[f,Mh];have u:(oE C M.aJ n.no l)=if l=g*2\/l=g*2+1 then iN.oz (M.aJ l) l else M.aJ l:=by
   have y:n.no*2=((g*2:Nat):Int):=FQ
   have e2:n.no*2+1=((g*2+1:Nat):Int):=FQ
   unfold oE jT;rw[e2,y,bD2 GL,bD2 GL,aL,aL];dsimp only;by_cases e:l=g*2;simp_all[Ab.bO,Ab.dI,bD2];by_cases e2:l=g*2+1;simp_all[Ab.dI,bD2,Ab.bO];simp_all[Ab.bO,bD1]
  rw[u];by_cases e:l/2=g;rw[aac,bD2 e];show qY ((M.aJ l).1.lE _)<=_;rw[um,z l e d];have G:((r.dA n.core).gX).phase=2:=by
   show(if(r.dA n.core).none=true then(2:Int) else _)=2;rw[bD2 t]
  grind;rw[aaa,bD1 e];exact h.sw l d;refine⟨fun l d=>?_⟩;rw[f,Mh];split;grind;exact h.sw l d
def Sw.Hk (hC:C.Ok) (e:cX C N M) (h:Sw C M) {b:Int}:Sw C (M.dE C a b c).1:=by
 unfold bU.dE;dsimp only;split;exact h;rename_i d;have d:=cb.1 d;split;exact h;split;exact h;exact(h.dF hC e (E0 e.cD<|(Dl d).mem_iff.2 eg).gG FQ).qD rfl rfl
theorem Sw.Eg (h:Sw C M):Sw C (M.dJ C a).1:=by
 unfold bU.dJ;dsimp only;split;exact h;split;exact h;refine⟨fun l b=>?_⟩;rw[eQ];split;dsimp only;by_cases e:l=a.toNat;subst e;rw[cR];refine cL ?_<|h.sw _ b;rw[iN.dJ];by_cases d:(M.aJ a.toNat).1.busy=true;grind;cases hw:(M.aJ a.toNat).1.aH with
 |nil=>grind
 |cons n w=>grind[uz]
 rw[Ab.bO e];exact h.sw l b;exact h.sw l b
def R8 (h:¬Lx r):qY r=0:=by
 rw[qY,bD1 fun e=>h<|.inl e];rw[AD];refine AR.2 fun x d b=>h<|.inr ⟨x,d,c8 b⟩
theorem Sw.Gd (hC:C.Ok) (v:cX C N M) (w:Dh M) (p:RY C M V) (h:Sw C M):Sw C (M.gH C a).1:=by
 by_cases b:(M.gH C a).2=0;rotate_left;grind[Mg];have t:M.gX C a=true:=by
  rw[bU.gH] at b;split at b;cases b;split at b;cases b;grind
 obtain⟨g,r,rfl,f,A,y,q,x⟩:=Rv p b;have j:=oK f;simp only[bU.gX,dn,AG,AW,BS] at t;have z:∀l:Nat,l/2=g->qY (M.aJ l).1=0:=fun l e=>by
  have:l=g*2\/l=g*2+1:=FQ
  rcases this with rfl|rfl;exact R8<|zW j.1 FR;exact R8<|zW j.2 FR
 have u:∀{d:nC},(∀l,(d l).1=(M.aJ l).1)->Sw C {M with bH:=(M.bH.oL r.aR.toNat ⟨r.kB,false⟩).dL g none,aJ:=d}:=by
  intro d k;refine⟨fun l i=>?_⟩;dsimp only;rw[k,Mh];split;grind;exact h.sw l i
 grind[nP,qD,iJ]
def Sw.mC (hC:C.Ok) (b:cX C N M) (f:Dh M) (e:RY C M V) (h:Sw C M) {d:Do}:Sw C (M.mC C d).1:=by
 rw[bU.mC];split;exact h.step b;split;exact h.Hk hC b;split;exact h.Eg;split;exact h.Gd hC b f e;exact h
theorem Sw.kT {c:MC}:Sw C (MC.kT c):=⟨fun l _=>by
 have:qY ((sQ c.C.aF l).1)=0:=by
  rw[sQ];split<;>rfl
 show qY ((sQ c.C.aF l).1)<=_;grind⟩
structure Zs (C:bQ) (S:Nat->aQ) (N:Nat) (M:bU):Prop where
 all:db C S N M
 ry:∃V,RY C M V
 en:En C M
 sw:Sw C M
def Zs.mC {S:Nat->aQ} (hC:C.Ok) (h:Zs C S N M) {d:Do}:Zs C S (N+2) (M.mC C d).1:=by
 have⟨V,hR⟩:=h.ry;exact⟨h.all.mC hC,hR.mC hC h.all.inv h.all.lE,h.en.mC hC h.all.inv h.all.lE hR,h.sw.mC hC h.all.inv h.all.lE hR⟩
theorem zJ (h:bV C M n=false):B0 C M n=if n.kind=1\/n.kind=2 then 26 else if n.kind=3 then 4 else 10:=by rw[B0];grind
theorem Zu (h:bV C M n=true):B0 C M n=0:=by simp_all[B0,bD2]
theorem Ga (h:bV C M n=false):nW C M n=if n.kind=6\/n.kind=12 then Bn C (M.aT n.core.toNat) n else Qv n.kind:=by rw[nW];grind
theorem Qf (h:bV C M n=true):nW C M n=0:=by simp_all[nW,bD2]
theorem Pf (h:n.kind≠6/\n.kind≠12/\n.kind≠1/\n.kind≠2/\n.kind≠9):bV C M n=false:=by
 grind[bV]
theorem Ni (h:n.kind≠6/\n.kind≠12/\n.kind≠1/\n.kind≠2/\n.kind≠9):nW C M n=Qv n.kind:=by
 simp_all[nW,Pf,bD1]
theorem Jp (h:n.kind≠6/\n.kind≠12/\n.kind≠1/\n.kind≠2/\n.kind≠9):jS C M n=true:=by
 grind[jS,Pf]
def zm {d:Ln}:nQ C M (r.dW l d).2=14/\(r.dW l d).2.length=1:=by
 have b:∀x:aG,x.kind=8->nQ C M [x]=14/\[x].length=1:=fun x e=>by
  refine⟨?_,rfl⟩;rw[hZ,Ni FQ,e];rfl
 rw[bT.dW];split;exact b _ rfl;split;exact b _ rfl;exact b _ rfl
theorem Sj {d:Ln}:oN (r.dW l d).1=0:=by
 have:(r.dW l d).1.cJ=true:=by
  rw[bT.dW];grind
 grind[oN]
theorem aH3 (x:1<=n.kind/\n.kind<=5) (u:wF k r) (hc:0<=n.core/\n.core<4) (t:r.aH.length<=5) (f:(iN.take (r,m) (k:Int) n).2.2=0):
  mK C M (iN.take (r,m) (k:Int) n).1.1+nQ C M (iN.take (r,m) (k:Int) n).2.1+(iN.take (r,m) (k:Int) n).2.1.length+(if jS C M n then 1 else 0)<=mK C M r+nW C M n:=by
 have b:n.kind=4\/n.kind=5->nW C M n=1/\jS C M n=true:=fun h=>by
  refine⟨?_,Jp FQ⟩;rw[Ni FQ];rcases h with h|h<;>rw[h]<;>rfl
 rw[iN.take] at f ⊢
 by_cases p:n.kind=4
 .rw[bD2 p] at f ⊢;split
  .grind
  .have⟨h1,h2⟩:=b<|.inl p;rw[h1,h2];show gC C M r.aH+oN r.lA+nQ C M []+0+1<=gC C M r.aH+oN r+1;show _+0+0+0+1<=_;omega
 rw[bD1 p] at f ⊢
 by_cases q:n.kind=5
 .rw[bD2 q] at f ⊢;split
  .grind
  .have⟨h1,h2⟩:=b<|.inr q;have⟨k1,k2,k3,k4'⟩:=Et (r:=r) (n:=n);have y:=Pc.mF (r:=r) (n:=n);have i:r.busy=true/\r.cJ=false:=by
    have v:¬r.kI=true:=fun v=>by
     grind[hQ]
    have:=u.sD;grind
   have w:oN r=if r.aX.kind=0 then 1 else 17:=by rw[oN];rw[bD2 i]
   rw[h1,h2]
   show mK C M (iN.nH (r,m) k n).1.1+nQ C M (iN.nH (r,m) k n).2+(iN.nH (r,m) k n).2.length+1<=gC C M r.aH+oN r+1
   unfold iN.nH bT.rest
   split
   .split
    .show gC C M (r.dA n).aH+oN (r.dA n).lA+0+0+1<=_;have:oN (r.dA n).lA=0:=by rw[oN];rw[bD1 fun e=>by cases e.1]
     grind
    .have⟨g1,g2⟩:=zm (C:=C) (M:=M) (r:=r.dA n) (l:=(k:Int)) (d:=(r.dA n).yV<|r.yS m n);rw[mK];simp_all[Sj,Pc.kA,bD1]
   .show gC C M (r.dA n).aH+oN (r.dA n)+0+0+1<=_;grind[oN]
 .rw[bD1 q] at f ⊢;show gC C M (r.aH++[n])+oN r+0+0+(if jS C M n then 1 else 0)<=gC C M r.aH+oN r+nW C M n;rw[Pg];by_cases g:jS C M n=true
  .have j:bV C M n=false:=by rw[jS] at g;simpa using g
   rw[zJ j,Ga j,bD1<|show ¬(n.kind=6\/n.kind=12) by omega]
   grind[Qv]
  .have j:bV C M n=true:=by rw[jS] at g;simpa using g
   simp_all[Zu,Qf,bb]
end
variable {n:aG} {c:Nat} {a:vT}
structure nX (C:bQ) (M:bU) (c:Nat) (a:vT):Prop where
 pM:(M.bR c).pM=true
 al:(M.bR c).al=a.aI
 aw:a.iV=true->(M.bR c).aw=true
 kn:vS (M.aT c) a.aR=true
 Nw:yM (M.aD c).aY (M.bH.jX a.aR).owner=true
 ln:∀x∈dR C M.cD,ij (M.bH.jX a.aR).owner c a.aI x=false
 wt:∀x∈(M.aJ a.aI.toNat).1.aH,ij (M.bH.jX a.aR).owner c a.aI x=false
structure Ji (C:bQ) (M:bU) (c w:Nat) (n:aG) (l:IT):Prop where
 e:(M.dE C (c:Int) (w:Int) 0)=((M.dF C n).1.bM ((M.cD.set c w l).gJ C (M.dF C n).2.1).1,0)
 t0:(M.dF C n).2.2=0
 s0:((M.cD.set c w l).gJ C (M.dF C n).2.1).2=0
 core:n.core.toNat=c
 aVy:cQ n=w
 gG:Nt.gG C n=0
 cI:(dR C M.cD).Perm (n::dR C (M.cD.set c w l))
theorem Ng (d:cX C N M) {l:IT} (f:M.cD c w=n::l):n.core=(c:Int)/\cQ n=w/\Nt.gG C n=0:=by
 have b:=d.cD.yK c w n FR;have e:=(fJ b.1.gG).2;exact⟨FR,b.2.2,b.1.gG⟩
theorem W7 {l:IT} (hc:(c:Int)<C.aB) (d:w<4) (b:M.cD c w=n::l):(dR C M.cD).Perm (n::dR C (M.cD.set c w l)):=by
 have e:=W4 hc d b;grind[Dl]
theorem Ei (e:cX C N M) {l:IT} (hc:(c:Int)<C.aB) (d:w<4) (b:M.cD c w=n::l):
  ((M.dE C (c:Int) (w:Int) 0).2≠0/\(M.dE C (c:Int) (w:Int) 0).1=M/\((M.dF C n).2.2≠0\/((M.cD.set c w l).gJ C (M.dF C n).2.1).2≠0))\/Ji C M c w n l:=by
 have g:=W4 hc d b
 have⟨h1,h2,h3⟩:=Ng e b
 by_cases f:(M.dF C n).2.2≠0
 .grind[bU.dE]
 by_cases e2:((M.cD.set c w l).gJ C (M.dF C n).2.1).2≠0
 .grind[bU.dE]
 .right;refine⟨?_,FQ,FQ,FQ,h2,h3,W7 hc d b⟩;grind[bU.dE]
def N5 (d:cX C N M) {l:IT} (hc:(c:Int)<C.aB) (f:w<4) (e:M.cD c w=n::l) (b:(M.dE C (c:Int) (w:Int) 0).2=0):Ji C M c w n l:=(Ei d hc f e).resolve_left fun h=>h.1 b
theorem nB:tR C M c a=true↔nX C M c a:=by
 simp only[tR,dn,AG,AZ,AW,DH];constructor;rintro ⟨⟨⟨⟨⟨⟨b,d⟩,g⟩,e⟩,f⟩,h⟩,i⟩;exact⟨b,d,FR,e,f,fun x j=>FR,fun x j=>FR⟩;rintro ⟨b,d,g,e,f,h,i⟩;grind
theorem xN (e:M'.aD c=M.aD c) (d:M'.aT c=M.aT c) (h:M'.bH=M.bH) (j:∀a,qZ C (M.aD c)=some a->mX C (M'.bR c) a.aI<=mX C (M.bR c) a.aI)
  (f:∀a,qZ C (M.aD c)=some a->fC M.bH a.aR=false->nX C M c a->nX C M' c a):hM C M' c<=hM C M c:=by
 unfold hM
 rw[e,d,h]
 cases ha:qZ C _ with
 |none=>grind
 |some a=>
  by_cases g:fC M.bH a.aR=true
  .grind
  .by_cases b:tR C M c a=true
   .have i:=nB.2 (f a ha (by simpa using g)<|nB.1 b);grind
   grind
theorem Fo (h:n.kind≠9/\n.kind≠1/\n.kind≠2):ij o c l n=false:=cr FQ
theorem aQ6 (hC:C.Ok) (Y:cX C N M) (P:RY C M V) (hS:Sw C M) {l:IT} (hc:(c:Int)<C.aB) (hw:w<4) (Q:M.cD c w=n::l) (hk:1<=n.kind/\n.kind<=5) (W:(M.dE C (c:Int) (w:Int) 0).2=0):
  ph C (M.dE C (c:Int) (w:Int) 0).1+(if jS C M n then 1 else 0)<=ph C M:=by
 have j:=N5 Y hc hw Q W
 have H:=j.t0
 have y:=j.s0
 have R:=j.cI
 rw[j.e]
 have z:=P.rY.cI R
 have u:=z.nb n eg HA
 have⟨k,hkk⟩:=ay u.2.1
 have t:k<C.aF:=FQ
 have β:=(fJ j.gG).2
 have α:=hC.1
 have e:eW C M.aJ n=(bA M.aJ k (iN.take (M.aJ k) (k:Int) n).1,(iN.take (M.aJ k) (k:Int) n).2):=by
  rw[eW];rw[bD1<|by rw[Hm.dF];omega,bD2 ⟨u.1,by exact u.2⟩,show n.aI.toNat=k by omega,hkk]
 have U:M.dF C n=(M.mJ<|bA M.aJ k (iN.take (M.aJ k) (k:Int) n).1,(iN.take (M.aJ k) (k:Int) n).2.1,(iN.take (M.aJ k) (k:Int) n).2.2):=by
  rw[bU.dF];rw[aac,e]
 rw[U] at H y ⊢
 dsimp only at H y ⊢
 have A:=P.rY.aI k t
 have B:=Iq A<|cL (hS.sw k t) IG
 have E:=aH3 (C:=C) (M:=M) (m:=(M.aJ k).2) hk A.iU FQ B H
 have D:∀x∈(iN.take _ _ n).2.1,x.kind=8:=fun x b=>aH7 (by rwa [e])
 generalize hG:iN.take _ _ n=G at*
 obtain⟨⟨h,q⟩,out,T⟩:=G
 have I:iN.take ((M.aJ k).1,(M.aJ k).2) _ n=((h,q),out,T):=hG
 dsimp only at E D H y ⊢
 have v:=(gM y).1
 have hE:yA C M ((M.cD.set c w l).gJ C out).1<=yA C M M.cD+out.length:=by
  have h4:=Ir (M:=M) y fun x b=>FR
  have h5:=Ls (M:=M) hc Q;grind
 generalize hF:((M.cD.set c w l).gJ C out).1=F' at v hE ⊢
 have d:bV C ((M.mJ<|bA M.aJ k (h,q)).bM F')=bV C M:=rG rfl rfl rfl
 have J:nW C ((M.mJ<|bA M.aJ k (h,q)).bM F')=nW C M:=q8 rfl rfl rfl
 have γ:∀L,nQ C _ L=nQ C M L:=fun L=>by unfold nQ;rw[J]
 have hB:nQ C M (dR C F')+nW C M n=nQ C M (dR C M.cD)+nQ C M out:=by
  rw[lY R,hZ,lY v,tA];omega
 have hD:Qk C ((M.mJ<|bA M.aJ k (h,q)).bM F')<=Qk C M+out.length:=by
  refine cL (AO ?_) hE;exact nL fun i _=>Sk d _
 have Z:Qn C ((M.mJ<|bA M.aJ k (h,q)).bM F')+mK C M (M.aJ k).1=Qn C M+mK C M h:=by
  have:=pS (f:=fun i=>mK C ((M.mJ _).bM F') (bA M.aJ k (h,q) i).1) (g:=fun i=>mK C M _) t fun i _ hi=>by
   rw[Ab.bO hi];unfold mK;rw[sN d]
  rw[cR] at this;have S:mK C ((M.mJ<|bA M.aJ k (h,q)).bM F') h=mK C M h:=by unfold mK;rw[sN d]
  rw[S] at this;exact this
 have hA:Mq C ((M.mJ<|bA M.aJ k (h,q)).bM F')<=Mq C M:=by
  refine iI fun i _=>xN rfl rfl rfl FR fun a _ _ p=>⟨p.pM,p.al,p.aw,p.kn,p.Nw,fun x b=>?_,fun x b=>?_⟩;rcases cg.1 (v.mem_iff.1 b) with b|b;grind[Fo];exact p.ln x FR;have b:x∈(bA M.aJ k (h,q) a.aI.toNat).1.aH:=b;by_cases O:a.aI.toNat=k;rw[O,cR] at b;have K:x∈(M.aJ k).1.aH\/x=n:=by
   have X:h.aH=(iN.take ((M.aJ k).1,(M.aJ k).2) (k:Int) n).1.1.aH:=by rw[I]
   dsimp only at b;rw[X] at b;rw[iN.take] at b;split at b;split at b;grind;exact .inl b;split at b;split at b;grind;have h8:(iN.nH ((M.aJ k).1,(M.aJ k).2) (k:Int) n).1.1.aH=(M.aJ k).1.aH:=by
    unfold iN.nH bT.rest;dsimp only;split;split;exact Pc.mF;grind[Pc.kA,Pc.mF];exact Pc.mF
   grind;have b:x∈(M.aJ k).1.aH++[n]:=b;grind
  rcases K with b|b;exact p.wt x FR;rw[b];exact p.ln n FR;rw[Ab.bO O] at b;exact p.wt x b
 grind[da,bA,bM,ph]
variable {S:Nat->IV}
theorem aL8 (b:0<=no):(bJ k S no).2=0↔(Go.Ct.get no<|S<|cU k no).isSome=true:=by
 grind[bJ]
variable {s s':jR}
theorem zj (e:0<=l) (f:(bJ C.aU.toNat s.S l).2=0->(bJ C.aU.toNat s'.S l).2=0\/(s'.S<|cU C.aU.toNat l).length<C.ways.toNat) (g:(s'.S<|cU C.aU.toNat l).length<=(s.S<|cU C.aU.toNat l).length):
  mX C s' l<=mX C s l:=by
 unfold mX
 by_cases b:(kR C.aU.toNat C.ways.toNat s'.S l).isSome=true
 rotate_left
 .grind
 have d:(kR C.aU.toNat C.ways.toNat s.S l).isSome=true:=by
  rw[kR] at b ⊢;cases hg':Go.Ct.get l (s'.S<|cU C.aU.toNat l) with
  |some x=>grind
  |none=>
   grind[bJ,aL8]
 grind
theorem Gr:(jQ k S no i).length<=(S i).length:=by
 rw[jQ];split;grind;by_cases e:i=cU k no;subst e;rw[cR];exact zK.length_le;simp_all[Ab.bO,bb]
theorem aD7 (d:iH C s) (b:0<=l) (g:(bJ C.aU.toNat s.S no).2=0) (e:s'.S=jQ C.aU.toNat s.S no):mX C s' l<=mX C s l:=by
 refine zj b (fun h=>?_) (by simp_all[Gr]);rw[e];by_cases f:l=no;subst f;have i:=Q8 g;have j:=(d.aU<|cU C.aU.toNat l).len;omega;grind[nE]
theorem aG7 {x:vX} (d:iH C s) (b:0<=l) (g:(bJ C.aU.toNat s.S no).2=0) (e:s'.S=(pB C.aU.toNat C.ways.toNat s.S no x).1):mX C s' l<=mX C s l:=by
 refine zj b (fun h=>?_) (by simp_all[de]);left;rw[e];by_cases f:l=no;subst f;rw[Ad d.aU b<|yG d.aU g];grind[mR]
theorem U4 {core:Int} (d:iH C s) (b:0<=l):mX C (lK C core s n).1 l<=mX C s l/\(lK C core s n).1.pM=s.pM/\(lK C core s n).1.al=s.al/\(lK C core s n).1.aw=s.aw:=by
 rw[lK];split;grind;split;rename_i e;refine⟨?_,rfl,rfl,rfl⟩;split;exact aD7 d b e rfl;exact aG7 d b e rfl;split;grind;split;grind;exact⟨bb _,rfl,rfl,rfl⟩
structure aY6 (C:bQ) (s s':jR) (n:aG) (out:IT):Prop where
 w:(n.kind=9/\out=[])\/(n.kind=10/\out=[])\/(∃y:aG,out=[y]/\((n.kind=8/\y.kind=4)\/(n.kind=11/\y.kind=5)))
 uC:n.kind=10\/n.kind=11->s'.pM=s.pM/\s'.al=s.al/\s'.aw=s.aw
 al:n.kind=8\/n.kind=9->s.pM=true/\s.al=n.aI/\s'.pM=false
 bAs:∀l:Int,0<=l->mX C s' l<=mX C s l+(if n.kind=8 then 12 else 0)
theorem aBb:mX C s l<=12:=by grind[mX]
theorem aG6 {core:Int} (f:iH C s) (k:n.kind=8\/n.kind=9\/n.kind=10\/n.kind=11) (b:(fP C core s n).2.2=0):aY6 C s (fP C core s n).1 n (fP C core s n).2.1:=by
 have h:∀x,(iS core n x).kind=5:=fun x=>by grind[iS]
 rw[fP] at b ⊢;by_cases e:n.kind=8;rw[bD2 e] at b ⊢;split;grind;rw[vM] at b ⊢;split;grind;split;grind;split;grind;refine⟨FR,FQ,fun _=>⟨FR,FQ,rfl⟩,fun l _=>?_⟩;rw[bD2 e];exact cL aBb FQ;rw[bD1 e] at b ⊢;by_cases i:n.kind=9;rw[bD2 i] at b ⊢;split;grind;rw[Bm] at b ⊢;split;grind;split;grind;exact⟨FR,FQ,fun _=>⟨FR,FQ,rfl⟩,fun l _=>EU _ _⟩;rw[bD1 i] at b ⊢;by_cases d:n.kind=10;rw[bD2 d] at b ⊢;split;grind;rw[rU] at b ⊢;split;grind;split;grind;exact⟨FR,FR,FQ,fun l _=>EU _ _⟩;rw[bD1 d] at b ⊢;rw[aac] at b ⊢;split;grind;have g:∃y:aG,(lK C core s n).2.1=[y]/\y.kind=5:=by
  rw[lK] at b ⊢;split;grind;split;grind;split;grind;split;grind;grind
 exact⟨FR,fun _=>(U4 (l:=0) f FQ).2,FQ,fun l j=>cL (U4 f j).1 FQ⟩
theorem aDi (f:M'.aD c=M.aD c) (e:M'.aT c=M.aT c) (g:M'.bH=M.bH) (h:∀a,qZ C (M.aD c)=some a->mX C (M'.bR c) a.aI<=mX C (M.bR c) a.aI+d)
  (p:∀a,qZ C (M.aD c)=some a->fC M.bH a.aR=false->nX C M c a->nX C M' c a):hM C M' c<=hM C M c+d:=by
 unfold hM
 rw[f,e,g]
 cases ha:qZ C _ with
 |none=>grind
 |some a=>
  dsimp only
  have i:=h a ha
  by_cases b:fC M.bH a.aR=true
  .grind
  .rw[bD1 b,bD1 b];have k:(if tR C M' c a=true then 0 else 34)<=(if tR C M c a=true then 0 else 34):=by
    by_cases j:tR C M c a=true;simp_all[nB,bD2,bb];grind
   omega
theorem F9 {s:aQ} (h:qZ C s=some a):0<=a.aI/\a.aI<C.aF/\0<=a.dD/\a.dD<C.aF*2/\aQ.iG s=some a:=by
 grind[qZ]
def aBl {y:aG} (h:y.kind=4\/y.kind=5):nW C M y=1/\cQ y=1:=by
 refine⟨?_,?_⟩;rw[Ni FQ];rcases h with h|h<;>rw[h]<;>rfl;rw[cQ];rcases h with h|h<;>rw[h]<;>rfl
theorem aJr (hC:C.Ok) (Q:cX C N M) {l:IT} (hc:(c:Int)<C.aB) (hw:w<4) (S:M.cD c w=n::l) (J:n.kind=8\/n.kind=9\/n.kind=10\/n.kind=11) (Z:(M.dE C (c:Int) (w:Int) 0).2=0)
  (h8:n.kind=8->∀a,qZ C (M.aD n.core.toNat)=some a->fC M.bH a.aR=false->¬nX C M n.core.toNat a):
  ph C (M.dE C (c:Int) (w:Int) 0).1+(if jS C M n then 1 else 0)<=ph C M:=by
 have d:=N5 Q hc hw S Z
 have B:=d.t0
 have u:=d.s0
 have T:=d.cI
 rw[d.e]
 have H:=(fJ d.gG).2
 have⟨i,hi⟩:=ay H.1
 have hit:n.core.toNat=i:=FQ
 have I:(i:Int)<C.aB:=FQ
 rw[hit] at h8
 have Y:M.dF C n=(M.kC i (fP C n.core (M.bR i) n).1,(fP C n.core (M.bR i) n).2.1,(fP C n.core (M.bR i) n).2.2):=by
  rw[bU.dF];rw[aaa,bD2 J,hit]
 rw[Y] at B u ⊢
 dsimp only at B u ⊢
 have t:=aG6 (Q.Pp i I) J B
 generalize hG:fP C n.core _ n=G at*
 obtain⟨p,out,er⟩:=G
 dsimp only at t B u ⊢
 have v:∀x∈out,(x.kind=4\/x.kind=5):=fun x q=>by
  rcases t.w with⟨_,e⟩|⟨_,e⟩|⟨y,e,U⟩;grind;grind;grind
 have z:=(gM u).1
 have hE:yA C M ((M.cD.set c w l).gJ C out).1<=yA C M M.cD:=by
  have h4:=Ir (M:=M) u fun x q=>FR
  have h5:=Ls (M:=M) hc S;have h6:out.countP (fun x=>decide<|cQ x=2/\jS C M x=true)=0:=AR.2 fun x q=>by
   simp[(aBl (C:=C) (M:=M)<|v x q).2]
  omega
 generalize hF:((M.cD.set c w l).gJ C out).1=F' at z hE ⊢
 have h:bV C ((M.kC i p).bM F')=bV C M:=rG rfl rfl rfl
 have K:nW C ((M.kC i p).bM F')=nW C M:=q8 rfl rfl rfl
 have δ:∀L,nQ C _ L=nQ C M L:=fun L=>by unfold nQ;rw[K]
 have hB:nQ C M (dR C F')+nW C M n=nQ C M (dR C M.cD)+nQ C M out:=by
  rw[lY T,hZ,lY z,tA];omega
 have hD:Qk C ((M.kC i p).bM F')<=Qk C M:=by
  refine cL (AO ?_) hE;exact nL fun i _=>Sk h _
 have β:Qn C _=Qn C M:=nL fun j _=>by
  unfold mK;rw[sN h]
 have hU:da C ((M.kC i p).bM F')=da C M:=rfl
 have mem:∀{o:Int} {j:Nat} {X:Int},(∀x∈dR C M.cD,ij o j X x=false)->∀x∈dR C F',ij o j X x=false:=fun hb x q=>by
  grind[Fo]
 have hA:Mq C ((M.kC i p).bM F')<=Mq C M+(if n.kind=8 then 12 else 0):=by
  have h9:=rE (f:=hM C<|(M.kC i p).bM F') (g:=hM C M) (k:=i) (n:=C.aB.toNat) FQ fun j _ hj=>by
   have E:((M.kC i p).bM F').bR j=M.bR j:=Ab.bO hj;exact xN rfl rfl rfl FR fun a _ _ b=>⟨by rw[E];exact b.pM,by rw[E];exact b.al,by rw[E];exact b.aw,b.kn,b.Nw,mem b.ln,b.wt⟩
  have A:((M.kC i p).bM F').bR i=p:=cR;have α:hM C ((M.kC i p).bM F') i<=hM C M i+(if n.kind=8 then 12 else 0):=by
   refine aDi rfl rfl rfl (fun a R=>by rw[A];exact t.bAs a.aI (F9 R).1) fun a R γ b=>?_;rcases J with W|D|k1;grind;have⟨_,h11,_⟩:=t.al<|.inr D;exact absurd ⟨FQ,by rw[<-h11];exact b.al,.inl D⟩<|DA<|b.ln n<|T.mem_iff.2 eg;have⟨a1,a2,a3⟩:=t.uC k1;exact⟨by rw[A,a1];exact b.pM,by rw[A,a2];exact b.al,by rw[A,a3];exact b.aw,b.kn,b.Nw,mem b.ln,b.wt⟩
  unfold Mq;omega
 have hW:nQ C M out+(if n.kind=8 then 12 else 0)+(if jS C M n then 1 else 0)<=nW C M n:=by
  rcases t.w with⟨D,e⟩|⟨O,e⟩|⟨y,e,U⟩;rw[e,aaa];show 0+0+_<=_;by_cases q:jS C M n=true;rw[bD2 q,Ga<|by rw[jS] at q;simpa using q,aaa,D];decide;grind;rw[e,aaa,Jp FQ,Ni FQ,O];show 0+0+1<=Qv 10;decide;rw[e,hZ,(aBl (C:=C) (M:=M) (y:=y) FQ).1,Jp FQ,Ni FQ];show 1+0+_+1<=_;rcases U with⟨W,_⟩|⟨P,_⟩;rw[W];decide;rw[P];decide
 unfold ph
 grind
theorem mo (hC:C.Ok) (f:cX C N M) (q:RY C M V) (e:(i:Int)<C.aB) (hc:n.core=(i:Int)) (k:n.kind=6) (v:(dR C M.cD).Perm (n::L)):
  (yE C (M.aT i)<|nZ n.core (kM M.bH.eU n.no).1 n.no).2.2.1=true->(yE C (M.aT i)<|nZ n.core (kM M.bH.eU n.no).1 n.no).2.1.lB=fC M.bH (M.aT i).aR:=by
 have h:=q.gG.cI v
 have⟨hw,h0,hno⟩:=h.Jx e hc<|.inl k
 have w:=h.pl i e hw
 have d:=h.gr i e
 have z:=h.no n FR<|.inl k
 have p:=f.bH.len
 have j:=hC.2.1
 have⟨g,hg⟩:=ay d.1
 have b:g<M.bH.eU.length:=FQ
 have y:(M.bH.eU.length:Int)=C.aM:=FQ
 have x:=Yy (a:=n.no) FQ f.bH.V0 b FR
 intro t
 have u:(lU C.aM _ n.no (kM M.bH.eU n.no).1).2.2.1=true:=t
 show(lU C.aM _ n.no (kM M.bH.eU n.no).1).2.1.lB=_
 grind[fC,Mon.jX]
theorem aV8 {k:jO} {y:aG} (b:n.kind=6) (d:y.kind=12) (h:(yE C k y).2.2.1=true->(yE C k y).2.1.lB=false):Bn C k y+1=Bn C k n:=by
 grind[Bn]
variable {e:Nat}
theorem aHg (hA:∀i:Nat,(i:Int)<C.aB->∀a,qZ C (M.aD i)=some a->fC M.bH a.aR=false->nX C M i a->nX C (M.bM F) i a)
  (hB:nQ C M (dR C F)+d<=nQ C M (dR C M.cD)+e) (hD:yA C M F<=yA C M M.cD):ph C (M.bM F)+d<=ph C M+e:=by
 have b:bV C (M.bM F)=bV C M:=rG rfl rfl rfl
 have f:nW C (M.bM F)=nW C M:=q8 rfl rfl rfl
 have g:∀L,nQ C _ L=nQ C M L:=fun L=>by unfold nQ;rw[f]
 have h:Mq C (M.bM F)<=Mq C M:=iI fun i k=>xN rfl rfl rfl FR FR
 have j:Qk C _<=Qk C M:=cL (AO<|nL fun i _=>Sk b _) hD
 grind[Qn,nL,mK,sN,da,ph]
theorem Rp (h:mB C M.aT M.bH (n::L)) (b:(i:Int)<C.aB) (hc:n.core=(i:Int)) (d:n.kind=6\/n.kind=12):∀x∈L,x.core=(i:Int)->x.kind≠6/\x.kind≠12:=fun x f e=>by
 have⟨_,_,h2⟩:=h.Jx b hc d;grind
theorem qB {c:Nat} (hc:(c:Int)<C.aB) (b:w<4) {x:aG} (h:x∈F c w):x∈dR C F:=by
 rw[dR];grind
def aB2 {c j v:Nat} {l:IT} (h:F c w=n::l) {x:aG} (b:x∈(F.set c w l) j v):x∈F j v:=by
 rw[eO.set] at b;split at b;rename_i e;rw[e.1,e.2,h];exact aW _ b;exact b
def tk6 (b:n.kind=6):M.dF C n=(M,[nZ n.core (kM M.bH.eU n.no).1 n.no],(kM M.bH.eU n.no).2):=by
 rw[bU.dF,aaa,aaa,bD2 b]
theorem aR3 (hC:C.Ok) (B:cX C N M) (O:RY C M V) {l:IT} (hc:(c:Int)<C.aB) (X:w<4) (G:M.cD c w=n::l) (k:n.kind=6) (R:(M.dE C (c:Int) (w:Int) 0).2=0):
  ph C (M.dE C (c:Int) (w:Int) 0).1+(if jS C M n then 1 else 0)<=ph C M:=by
 have d:=N5 B hc X G R
 have A:=d.s0
 have D:=d.cI
 rw[d.e]
 have E:=(fJ d.gG).2
 have⟨i,hi⟩:=ay E.1
 have hit:n.core.toNat=i:=FQ
 have p:(i:Int)<C.aB:=FQ
 rw[tk6 k] at A ⊢
 dsimp only at A ⊢
 have I:=mo hC B O p hi k D
 generalize P:nZ n.core _ n.no=y at*
 have z:y.kind=12:=by rw[<-P];rfl
 have Y:y.core=n.core:=by rw[<-P];rfl
 have⟨hF,_,_⟩:=sS A
 have q:=(gM A).1
 have W:=Rp (O.gG.cI D) p hi<|.inl k
 have hE:yA C M ((M.cD.set c w l).gJ C [y]).1<=yA C M M.cD:=by
  rw[hF];have T:=Ls (M:=M) hc G;refine cL (iI fun j hj=>?_) T;have t:∀x∈(M.cD.set c w l) j 2,x.core.toNat=j:=fun x b=>(B.cD.yK j 2 x<|aB2 G b).2.1;rw[eO.A9];generalize M.cD.set c w l=F0 at*;by_cases e:j=y.core.toNat/\2=cQ y;have Q:(F0.set y.core.toNat (cQ y)<|F0 y.core.toNat (cQ y)++[y]) j 2=F0 j 2++[y]:=by
   rw[eO.set];rw[bD2 e,<-e.1,<-e.2]
  rw[Q,aLf fun x b=>?_];grind;have K:=qB (C:=C) FQ FQ b;intro S;have U:x.core=(i:Int):=by
   have Z:=t x b;have h8:=e.1;have⟨c3,w3,_,_,hx3⟩:=uM<|D.mem_iff.2<|aW _ K;have h9:=(fJ (B.cD.yK c3 w3 x hx3).1.gG).2;omega
  grind;simp_all[cQ,eO.set,bD1]
 refine aHg (e:=0) (fun j _ a _ _ g=>⟨g.pM,g.al,g.aw,g.kn,g.Nw,fun x b=>?_,g.wt⟩) ?_ hE
 .rcases cg.1 (q.mem_iff.1 b) with b|b
  .grind[List.mem_singleton,Fo]
  .exact g.ln x FR
 .rw[lY D,hZ,lY q,tA,hZ];show nW C M y+0+_+_<=_;have v:y.core.toNat=i:=FQ
  by_cases b:jS C M n=true
  .have f:bV C M n=false:=by rw[jS] at b;simpa using b
   have J:fC M.bH (M.aT i).aR=false:=by
    rw[bV] at f;rw[bD2<|.inl k,hit] at f;have:pJ C (M.aT i) n=false:=by rw[pJ];grind
    grind
   have u:bV C M y=false:=by
    rw[bV];grind
   have:=aV8 k z fun h=>by rw[I h,J]
   rw[bD2 b,Ga f,Ga u,aac,aac,hit,v]
   omega
  .have f:bV C M n=true:=by rw[jS] at b;simpa using b
   have H:fC M.bH (M.aT i).aR=true:=by
    rw[bV] at f;rw[bD2<|.inl k,hit] at f;simp only[dn] at f;exact f.1
   have u:bV C M y=true:=by
    rw[bV];rw[bD2<|.inr z,v,H];rw[pJ];cases h1:(yE C _ y).2.2.1 with
    |false=>simp
    |true=>grind
   simp_all[bD1,Qf]
theorem yd (h:bV C M n=true->bV C M' n=true):jS C M' n=true->jS C M n=true:=by
 unfold jS;grind
theorem Vr {p q:aG->Bool}:∀{l:IT},(∀x∈l,p x=true->q x=true)->l.countP p<=l.countP q
 |[],_=>bb _
 |x::l,h=>by
  have d:=Vr fun y b=>h y<|aW _ b;grind
theorem M3:∀{l:IT},(∀x∈l,bV C M x=true->bV C M' x=true)->gC C M' l<=gC C M l
 |[],_=>bb _
 |x::l,h=>by
  have f:=M3 fun y b=>h y<|aW _ b;have d:l.countP (jS C M')<=l.countP (jS C M):=Vr fun y b=>yd FR;have e:B0 C M' x<=B0 C M x:=by
   cases h1:bV C M' x with
   |true=>simp_all[Zu,og]
   |false=>
    simp_all[zJ,bb]
  grind[gC]
theorem z6:∀{l:IT},(∀x∈l,bV C M x=true->bV C M' x=true)->Mc.e2 C M' l<=Mc.e2 C M l
 |[],_=>bb _
 |x::l,h=>by
  unfold Mc.e2;split;exact Vr fun y b=>yd FR;exact z6 FR
theorem Ul:∀{l:IT},(∀x∈l,nW C M' x<=nW C M x)->nQ C M' l<=nQ C M l
 |[],_=>bb _
 |x::l,h=>by
  exact FD FR<|Ul FR
theorem zq (b:n.kind≠6/\n.kind≠12) (h:bV C M n=true->bV C M' n=true):nW C M' n<=nW C M n:=by
 cases h1:bV C M' n with
 |true=>simp_all[Qf,og]
 |false=>
  simp_all[Ga,bD1,bb]
theorem mi {k:jO} (b:M'.aD=M.aD) (e2:M'.aT=bA M.aT i k) (d:M'.bH=M.bH) (e:n.core.toNat≠i\/(n.kind≠6/\n.kind≠12))
  (h:yY C (M.aD i) (M.aT i) M.bH=true->yY C (M.aD i) k M.bH=true):bV C M n=true->bV C M' n=true:=by
 unfold bV
 unfold uK
 rw[b,e2,d]
 grind[cR,Ab.bO]
theorem N3 {k:jO} (h:(k.fM C n.no n.d0).2.2.2=0):k.dM=true/\n.no=k.at'/\
  ((k.kG=true/\k.fM C n.no n.d0=(k.iD,k.aR/4,false,0))\/
   (k.kG=false/\(yE C k n).2.2.1=true/\(yE C k n).2.1.lB=true/\k.fM C n.no n.d0=(k.goto<|k.aR/4,k.aR/4,false,0))\/
   (k.kG=false/\(yE C k n).2.2.1=false/\k.fM C n.no n.d0=(k.goto (yE C k n).1,(yE C k n).1,false,0))\/
   (k.kG=false/\(yE C k n).2.2.1=true/\(yE C k n).2.1.lB=false/\k.fM C n.no n.d0=((k.Bu C (k.aR,(yE C k n).2.1.owner)).done,0,true,0))):=by
 rw[yE]
 rw[jO.fM] at h ⊢
 by_cases b:k.dM=false
 .grind
 by_cases d:n.no≠k.at'
 .grind
 refine⟨FR,FQ,?_⟩
 by_cases e:k.kG=true
 .grind
 grind
theorem aBx {k:jO} {g:Int}:vS (k.Bu C (g,o)).done g=true:=by
 show(((if(k.bL.length:Int)>=C.mU then k.bL.drop 1 else k.bL)++[(g,o)]).find? _|>.map _).isSome=true;grind
theorem vc {k:jO} {f a x:Nat} (p:(i:Int)<C.aB) (b:∀x,x.core.toNat≠i\/(x.kind≠6/\x.kind≠12)->bV C M x=true->bV C ((M.eP i k).bM F) x=true)
  (h:∀l:Nat,l<C.aF->∀x∈(M.aJ l).1.aH,x.kind≠6/\x.kind≠12) (hE:∀j:Nat,(j:Int)<C.aB->∀x∈F j 2,x.core.toNat≠i\/(x.kind≠6/\x.kind≠12)) (hD:yA C M F+x<=yA C M M.cD)
  (D:∀j:Nat,(j:Int)<C.aB->j≠i->∀a,nX C M j a->nX C ((M.eP i k).bM F) j a) (hA:hM C ((M.eP i k).bM F) i+a<=hM C M i+f)
  (hB:nQ C ((M.eP i k).bM F) (dR C F)+f+d<=nQ C M (dR C M.cD)+e+a):ph C ((M.eP i k).bM F)+d+x<=ph C M+e:=by
 have w:Mq C ((M.eP i k).bM F)+a<=Mq C M+f:=by
  have B:=rE (f:=hM C<|(M.eP i k).bM F) (g:=hM C M) (k:=i) (n:=C.aB.toNat) FQ fun j q t=>by
   simp_all[xN,Ab.bO,bb]
  unfold Mq;omega
 have y:Qk C ((M.eP i k).bM F)+x<=Qk C M:=by
  refine cL (BP (iI fun j q=>?_) x) hD;exact z6 FR
 have z:Qn C _<=Qn C M:=iI fun l u=>by
  unfold mK;exact BP (M3 fun x v=>b x<|.inr<|h l u x v) _
 have A:da C ((M.eP i k).bM F)=da C M:=rfl
 unfold ph
 grind
def Dy {j:Nat} {k:jO} (b:j≠i) (h:nX C M j a) (d:∀x∈dR C F,ij (M.bH.jX a.aR).owner j a.aI x=false):nX C ((M.eP i k).bM F) j a:=
 ⟨h.pM,h.al,h.aw,by show vS (bA M.aT i k j) _=true;rw[Ab.bO b];exact h.kn,h.Nw,d,h.wt⟩
theorem rM {q w g:Bool} (ha:qZ C (M.aD c)=some a) (d:fC M.bH a.aR=b) (e:vS (M.aT c) a.aR=q) (f:(M.aT c).dM=w) (h:tR C M c a=g):
  hM C M c=mX C (M.bR c) a.aI+(if b then(if q then 34 else 0) else(if q then 34 else if w then 0 else 40)+(if g then 0 else 34)):=by
 grind[hM]
def aV2 {l:IT} (hc:(c:Int)<C.aB) (h:F c w=n::l) (i:w=2) (d:n.kind=12) (g:∀x∈l,x.kind≠12):yA C M (F.set c w l)+l.countP (jS C M)<=yA C M F:=by
 subst i;have:=pS (f:=fun j=>Mc.e2 C M<|(F.set c 2 l) j 2) (k:=c) (n:=C.aB.toNat) FQ fun j _ p=>by
  have e:(F.set c 2 l) j 2=F j 2:=by rw[eO.set];rw[aaa]
  rw[e]
 have b:(F.set c 2 l) c 2=l:=by rw[eO.set];rw[bD2 ⟨rfl,rfl⟩]
 have e2:Mc.e2 C M (F c 2)=l.countP (jS C M):=by rw[h];rw[Mc.e2];rw[bD2 d]
 rw[b,e2,z8 g] at this;unfold yA;omega
def aY0 (d:n.kind=12) (b:n.core.toNat=i):M.dF C n=(M.eP i ((M.aT i).fM C n.no n.d0).1,if((M.aT i).fM C n.no n.d0).2.2.1 then [] else [cN 6 n.core ((M.aT i).fM C n.no n.d0).2.1],((M.aT i).fM C n.no n.d0).2.2.2):=by
 rw[bU.dF,aaa,aaa,aaa,bD2 d,b]
theorem Xk (hC:C.Ok) (hI:cX C N M) (hR:RY C M V) (ζ:En C M) {l:IT} (hc:(c:Int)<C.aB) (hw:w<4) (hl:M.cD c w=n::l) (E:n.kind=12) (h0:(M.dE C (c:Int) (w:Int) 0).2=0):
  ph C (M.dE C (c:Int) (w:Int) 0).1+(if jS C M n then 1 else 0)+l.countP (jS C M)<=ph C M:=by
 have y:=N5 hI hc hw hl h0
 have h2:=y.t0
 have u:=y.s0
 have hp:=y.cI
 rw[y.e]
 have θ:=(fJ y.gG).2
 have⟨i,hi⟩:=ay θ.1
 have hit:n.core.toNat=i:=FQ
 have p:(i:Int)<C.aB:=FQ
 rw[aY0 E hit] at h2 u ⊢
 dsimp only at h2 u ⊢
 have v:=hR.gG.cI hp
 have τ:=Rp v p hi<|.inr E
 have⟨hwk,hno,hcase⟩:=N3 h2
 have υ:=v.pl i p hwk
 have ο:=v.gr i p
 have⟨a,hacc,hword,d⟩:=ζ.w1 i p hwk
 have B:qZ C (M.aD i)=some a:=by rw[qZ];grind
 have d:a.aR=(M.aT i).aR:=d.symm
 have δ:vS (M.aT i) (M.aT i).aR=false:=by
  rw[vS];cases Z:jC _ _ with
  |none=>rfl
  |some o=>exact absurd (gk.2 ⟨_,Gk Z,rfl⟩)<|(v.nd i p).2 hwk
 have σ:yY C (M.aD i) (M.aT i) M.bH=false:=by
  rw[yY];rw[B];dsimp only;rw[d,δ,r5]
 have G:∀{M1:bU},vS (M1.aT i) a.aR=false->tR C M1 i a=false:=fun {M1} h=>by
  cases I:tR C M1 i a with
  |false=>rfl
  |true=>
   have:=(nB.1 I).kn;grind
 have z:vS (M.aT i) a.aR=false:=FR
 have ξ:=rM B rfl z hwk<|G z
 have ι:∀x∈dR C _,x.core.toNat=i->x.core=(i:Int):=fun x b e=>by
  have⟨c3,w3,_,_,hx3⟩:=uM<|hp.mem_iff.2<|aW _ b;have h9:=(fJ (hI.cD.yK c3 w3 x hx3).1.gG).2;omega
 have W:∀x∈dR C (M.cD.set c w l),x.core.toNat≠i\/(x.kind≠6/\x.kind≠12):=FR
 have X:∀l:Nat,l<C.aF->∀x∈(M.aJ l).1.aH,x.kind≠6/\x.kind≠12:=fun l hl x b=>by
  have:=((hR.rY.aI l hl).iU.aH x b).2.2;omega
 have η:=(hI.cD.yK c w n FR).2
 have D:w=2:=by
  rw[<-η.2];rw[cQ];rw[E];rfl
 have α:∀x∈l,x.kind≠12:=fun x b=>by
  have χ:x∈dR C (M.cD.set c w l):=qB hc hw (by grind[eO.set]);have φ:=(hI.cD.yK c w x FR).2.1;grind
 have Y:=aV2 (M:=M) hc hl D E α
 have ε:∀{k:jO} {F:eO},(∀x,x.core.toNat≠i\/(x.kind≠6/\x.kind≠12)->bV C M x=true->bV C _ x=true)->nQ C ((M.eP i k).bM F) _<=nQ C M _:=fun {k F} S=>
  Ul fun x b=>by
   by_cases e:x.kind=6\/x.kind=12;have P:x.core.toNat≠i:=by rcases W x b with h|h;exact h;omega
   have ej:((M.eP i k).bM F).aT x.core.toNat=M.aT x.core.toNat:=Ab.bO P;have es:bV C ((M.eP i k).bM F) x=bV C M x:=by
    unfold bV;rw[bD2 e,bD2 e,ej]
   unfold nW;grind;exact zq FQ<|S x<|.inr FQ
 have γ:=lY (C:=C) (M:=M) hp
 rw[hZ] at γ
 have goes:∀(k:jO) (g:Int),k.bL=(M.aT i).bL->k.aR=(M.aT i).aR->k.dM=true->
   ((M.cD.set c w l).gJ C [cN 6 n.core g]).2=0->(fC M.bH (M.aT i).aR=false->Bn C k (cN 6 n.core g)+1<=nW C M n)->(fC M.bH (M.aT i).aR=true->jS C M n=false)->
   ph C ((M.eP i k).bM ((M.cD.set c w l).gJ C [cN 6 n.core g]).1)+(if jS C M n then 1 else 0)+l.countP (jS C M)<=ph C M:=by
  intro k g e1 e2 e3 u hu O
  have⟨hF,_,_⟩:=sS u
  have Q:=(gM u).1
  generalize ν:((M.cD.set c w l).gJ C _).1=F at hF Q ⊢
  have Z:∀g',vS k g'=vS (M.aT i) g':=fun g'=>by unfold vS;rw[e1]
  have q:∀x,x.core.toNat≠i\/(x.kind≠6/\x.kind≠12)->bV C M x=true->bV C ((M.eP i k).bM F) x=true:=fun x b=>
   mi rfl rfl rfl b FR
  have K:∀j,F j 2=(M.cD.set c w l) j 2:=fun j=>by
   rw[hF];show(if j=(cN 6 n.core g).core.toNat/\2=cQ _ then _ else _)=_;rw[bD1 (fun e=>by have U:cQ (cN 6 n.core g)=0:=rfl;grind)]
  refine vc (e:=0) (f:=0) (a:=0) p q X (fun j hj x b=>?_) (cL (BP (AO<|nL fun j _=>by rw[K]) _) Y) (fun j _ J a I=>Dy J I fun x b=>?_) ?_ ?_
  .grind[qB]
  .rcases cg.1 (Q.mem_iff.1 b) with b|b
   .rw[aV.1 b];exact Fo (by show(6:Int)≠9/\(6:Int)≠1/\(6:Int)≠2;decide)
   .exact I.ln x FR
  .have T:((M.eP i k).bM F).aT i=k:=cR;have U:vS (((M.eP i k).bM F).aT i) a.aR=false:=FR
   have h8:=rM (M:=(M.eP i k).bM F) (w:=true) B rfl U FR<|G U
   grind
  .rw[lY Q,tA,hZ];show nW C _ _+0+_+0+_<=_+0;have T:((M.eP i k).bM F).aT i=k:=cR;have H:(cN 6 n.core g).core.toNat=i:=hit;by_cases μ:fC M.bH (M.aT i).aR=true
   .have S:bV C ((M.eP i k).bM F) (cN 6 n.core g)=true:=by
     rw[bV];rw[bD2<|.inl rfl,H,T,e2];show(fC M.bH _&&_)=true;rw[μ];rw[pJ];rw[cr<|by show ¬(6:Int)=12;decide];rfl
    grind[Qf]
   .have S:bV C ((M.eP i k).bM F) (cN 6 n.core g)=false:=by
     rw[bV];rw[bD2<|.inl rfl,H,T,e2];grind
    rw[Ga S,bD2<|show(cN 6 n.core g).kind=6\/_ from .inl rfl,H,T]
    grind
 have R:fC M.bH (M.aT i).aR=false->nW C M n=Bn C _ n:=fun h=>by
  have S:bV C M n=false:=by
   rw[bV];grind
  rw[Ga S,bD2<|.inr E,hit]
 have A:pJ C (M.aT i) n=false->fC M.bH (M.aT i).aR=true->jS C M n=false:=fun h h'=>by
  grind[jS,bV]
 rcases hcase with⟨t,e⟩|⟨t,ho,O,e⟩|⟨t,ho,e⟩|⟨t,ho,O,e⟩
 .rw[e] at u ⊢;refine goes _ _ rfl rfl hwk u (fun h=>?_) (A<|by grind[pJ]);rw[R h];unfold Bn;rw[bD2<|show(M.aT i).iD.at'=(M.aT i).iD.aR/4 from rfl,bD2<|show(cN 6 n.core _).kind=6 from rfl,bD1<|show ¬n.kind=6 by omega,t];show 34+2+(2+0)+1<=34+_+(1+4);omega
 .rw[e] at u ⊢;refine goes _ _ rfl rfl hwk u (fun h=>?_) (A<|by grind[pJ]);rw[R h];unfold Bn;rw[bD2<|show((M.aT i).goto<|(M.aT i).aR/4).at'=((M.aT i).goto<|(M.aT i).aR/4).aR/4 from rfl,bD2<|show(cN 6 n.core _).kind=6 from rfl,bD1<|show ¬n.kind=6 by omega,ho,O,
      show((M.aT i).goto<|(M.aT i).aR/4).kG=false from t]
  grind
 .rw[e] at u ⊢;refine goes _ _ rfl rfl hwk u (fun h=>?_) (A<|by grind[pJ]);rw[R h];have D:=(v.dD n FR E).1;rw[hit,<-hno] at D;have⟨h5,h6⟩:=D.2 ho;have P:¬((M.aT i).goto (yE C (M.aT i) n).1).at'=((M.aT i).goto (yE C (M.aT i) n).1).aR/4:=by
   show ¬(lU C.aM _ n.no n.d0).1=(M.aT i).aR/4;rw[h5];have:=hC.2.1;rw[lN];omega
  unfold Bn
  rw[bD1 P,bD2<|show(cN 6 n.core _).kind=6 from rfl,bD1<|show ¬n.kind=6 by omega,ho,bD2<|show(M.aT i).at'=(M.aT i).aR/4 by grind,t,
      show((M.aT i).goto (yE C _ n).1).kG=false from t]
  simp
 .rw[e] at u ⊢;have hF:((M.cD.set c w l).gJ C []).1=M.cD.set c w l:=rfl;generalize κ:((M.aT i).Bu C ((M.aT i).aR,(yE C _ n).2.1.owner)).done=k;have π:vS k (M.aT i).aR=true:=by rw[<-κ];exact aBx
  have q:∀x,x.core.toNat≠i\/(x.kind≠6/\x.kind≠12)->bV C M x=true->bV C ((M.eP i k).bM<|M.cD.set c w l) x=true:=fun x b=>
   mi rfl rfl rfl b FR
  have β:bV C M n=false:=by
   rw[bV];rw[bD2<|.inr E,hit];rw[pJ];grind
  have ρ:35<=nW C M n:=by
   rw[Ga β,bD2<|.inr E,hit];rw[Bn];grind
  refine vc (e:=0) (f:=34) (a:=0) p q X (fun j hj x b=>W x<|qB FQ FQ b) Y (fun j _ J a I=>Dy J I fun x b=>I.ln x FR) ?_ ?_
  .have T:((M.eP i k).bM<|M.cD.set c w l).aT i=k:=cR;have U:vS (((M.eP i k).bM<|M.cD.set c w l).aT i) a.aR=true:=FR
   have h8:=rM (M:=(M.eP i k).bM _) B rfl U rfl rfl
   grind
  grind
def iZ (i:Nat) (n:aG):Bool:=decide<|n.core=(i:Int)/\(n.kind=1\/n.kind=2\/n.kind=9)
theorem nA:∀{n:Nat} {f:Nat->Nat},(∀i,i<n->f i=0)->eZ f n=0
 |0,_,_=>rfl
 |n+1,f,h=>by
  show eZ f n+f n=0;rw[nA FR,h n FQ]
theorem lT {f g:Nat->Nat}:∀{n:Nat},eZ (fun i=>f i+g i) n=eZ f n+eZ g n
 |0=>rfl
 |n+1=>by
  show eZ _ n+(f n+g n)=eZ f n+f n+(eZ g n+g n);rw[lT];omega
theorem Dn {f:Nat->Nat} {k b:Nat}:∀{n:Nat},(∀i,i<n->i≠k->f i=0)->f k<=b->eZ f n<=b
 |0,_,_=>og _
 |n+1,h,d=>by
  show eZ f n+f n<=b;by_cases e:n=k;grind[nA];rw[h n FQ e];exact Dn FR d
theorem py {i l:Nat}:∀{L:IT},(L.filter<|Rn l).countP (iZ i)=fS 1 i l (L.filter<|Rn l)+fS 2 i l (L.filter<|Rn l)+fS 9 i l (L.filter<|Rn l)
 |[]=>rfl
 |x::L=>by
  have e:=py (i:=i) (l:=l) (L:=L);by_cases b:Rn l x=true;rw[BV b];simp[dU,l9,iZ,AG];have d:=(c8 b).1;grind;grind
theorem aAj {i n:Nat}:∀{L:IT},(∀x∈L,iZ i x=true->0<=x.aI/\x.aI<n)->L.countP (iZ i)=eZ (fun l=>(L.filter<|Rn l).countP<|iZ i) n
 |[],_=>(nA fun _ _=>rfl).symm
 |x::L,h=>by
  rw[l9,aAj fun y g=>h y<|aW _ g];by_cases b:iZ i x=true;have⟨h1,h2⟩:=h x FR b;have⟨k,hk⟩:=ay h1;have d:=(c8 b).2;have:=pS (f:=fun l=>((x::L).filter<|Rn l).countP<|iZ i) (k:=k) (n:=n) FQ fun l _ p=>by
   rw[AX];intro e;have:=(c8 e).1;omega
  have j:((x::L).filter<|Rn k).countP (iZ i)=(L.filter<|Rn k).countP (iZ i)+1:=by
   rw[BV<|show Rn k x=true from cj ⟨hk,HA⟩,l9,bD2 b]
  grind;grind
theorem ni {i l:Nat}:∀{w:IT},(∀x∈w,x.aI=(l:Int)/\(x.kind=0\/x.kind=1\/x.kind=2\/x.kind=3))->w.countP (iZ i)=fS 1 i l w+fS 2 i l w
 |[],_=>rfl
 |x::w,h=>by
  have e:=ni (i:=i) fun y d=>h y<|aW _ d;simp[dU,l9];have:(if iZ i x=true then 1 else 0)=(if x.kind=1/\x.core=(i:Int)/\x.aI=(l:Int) then 1 else 0)+(if x.kind=2/\x.core=(i:Int)/\x.aI=(l:Int) then 1 else 0):=by
   rw[iZ];simp[AG];by_cases b:x.core=(i:Int);grind;simp[b]
  omega
theorem aP2 (hC:C.Ok) (f:RY C M V) (h:(i:Int)<C.aB):(dR C M.cD).countP (iZ i)+eZ (fun l=>(M.aJ l).1.aH.countP<|iZ i) C.aF<=1:=by
 have g:=hC.1;rw[aAj fun x d j=>(f.rY.nb x d<|by have:=(c8 j).2;unfold PK;omega).2,<-lT];have each:∀l:Nat,l<C.aF->((dR C M.cD).filter<|Rn l).countP (iZ i)+(M.aJ l).1.aH.countP (iZ i)<=(rZ C M.bR l i).qP.toNat:=fun l b=>by
  have e:=f.rY.aI l b;have t1:=e.t1 i FQ;rw[py,ni fun x d=>⟨(e.iU.aH x d).1,(e.iU.aH x d).2.2⟩];grind[H8]
 have kJ:∀l:Nat,(rZ C M.bR l i).qP=((M.bR i).pM&&decide _):=fun l=>rfl;have zero:∀l:Nat,l<C.aF->l≠(M.bR i).al.toNat->((dR C M.cD).filter<|Rn l).countP (iZ i)+(M.aJ l).1.aH.countP (iZ i)=0:=fun l b k=>by
  have:(rZ C M.bR l i).qP=false:=by
   rw[kJ,cr FQ,r5]
  grind
 by_cases b:(M.bR i).al.toNat<C.aF;apply Dn zero;have p:=each _ b;have:(rZ C M.bR (M.bR i).al.toNat i).qP.toNat<=1:=by cases(rZ C M.bR _ i).qP<;>decide
 omega;rw[nA FR];omega
abbrev up2 (C:bQ) (M:bU) (L:IT):Nat:=L.countP fun x=>decide<|cQ x=2/\jS C M x=true
theorem Mp {s:Int} {p:FL}:nQ C M (eT l s p)=2*p.length/\up2 C M (eT l s p)=0:=by
 rw[eT];induction p with
 |nil=>exact⟨rfl,rfl⟩
 |cons x p b=>
  rw[k7,hZ,b.1];have d:nW C M {aG.zero with kind:=11,core:=(x:Int),aI:=l,state:=s}=2:=by
   rw[Ni FR];rfl
  rw[d];refine⟨FX,?_⟩;exact b.2
theorem H7 (h:r.busy=false):oN r=0:=by
 grind[oN]
theorem aCn {w:IT} (hb:r.busy=false) (B:r.cJ=false) (G:r.aH=n::w) (Q:n.kind=0\/n.kind=1\/n.kind=2\/n.kind=3) (D:n.aI=l) (P:(j n.aY).2=true->fC M.bH (l/2)=false):
  mK C M (bT.eY (r.next w) l m n j).1.1+nQ C M (bT.eY (r.next w) l m n j).2+up2 C M (bT.eY (r.next w) l m n j).2+(if jS C M n then 1 else 0)<=mK C M r:=by
 have E:mK C M r=B0 C M n+gC C M w+w.countP (jS C M):=by
  rw[mK];rw[H7 hb,G];rfl
 rw[E]
 rw[bT.eY]
 by_cases k:n.kind=3
 .have t:nQ C M [mO 10 n.core l]=1:=by rw[hZ,Ni<|by show(10:Int)≠6/\(10:Int)≠12/\(10:Int)≠1/\(10:Int)≠2/\(10:Int)≠9;decide];rfl
  have u:mK C M ((r.next w).iC n.core)=gC C M w:=by
   show gC C M w+oN _=_;rw[H7 (r:=(r.next w).iC n.core) hb];rfl
  rw[zJ<|Pf FQ,bD1<|show ¬(n.kind=1\/n.kind=2) by omega,bD2 k]
  grind
 rw[bD1 k]
 by_cases e:n.kind=1\/n.kind=2
 .rw[bD2 e];by_cases h:(j n.aY).2=true
  .rw[bD2 h];have g:bV C M n=false:=by
    rw[bV];grind
   rw[zJ g,bD2 e]
   have t:(if jS C M n then 1 else 0)<=1:=by split<;>omega
   have dQ:∀{b:bT} {p:FL} {s:Int},b.aH=w->b.busy=true->b.cJ=false->b.aX.kind≠0->p.length<=4->mK C M (b.iO p)+nQ C M (eT l s p)+up2 C M (eT l s p)+(if jS C M n then 1 else 0)<=26+gC C M w+w.countP (jS C M):=fun {b p s} q e2 y z K=>by
    rw[Mp.1,Mp.2];have:mK C M (b.iO p)=gC C M w+17:=by
     show gC C M b.aH+oN _=_;rw[q];rw[oN];rw[bD2<|show(b.iO p).busy=true/\(b.iO p).cJ=false from⟨e2,y⟩,bD1<|show ¬(b.iO p).aX.kind=0 from z]
    omega
   have f:∀{b:bT} {d:Ln},b.aH=w->mK C M (b.dW l d).1+nQ C M (b.dW l d).2+up2 C M (b.dW l d).2+(if jS C M n then 1 else 0)<=26+gC C M w+w.countP (jS C M):=fun {b d} q=>by
    have⟨g1,g2⟩:=zm (C:=C) (M:=M) (r:=b) (l:=l) (d:=d);grind[mK,gC,Sj,Pc.kA]
   unfold bT.get
   split
   .rw[bT.La];split
    .exact dQ rfl rfl B (show n.kind≠0 by omega) tW
    .exact f rfl
   .have R:(((r.next w).iL n (j n.aY).1).jY).aX=n/\(((r.next w).iL n (j n.aY).1).jY).aH=w/\(((r.next w).iL n (j n.aY).1).jY).busy=true/\(((r.next w).iL n (j n.aY).1).jY).cJ=r.cJ:=by rw[bT.jY];split<;>exact⟨rfl,rfl,rfl,rfl⟩
    rw[bT.J2]
    split
    .simp_all
    grind
  .rw[bD1 h];have u:mK C M (r.next w)=gC C M w:=by
    show gC C M w+oN _=_;rw[H7 (r:=r.next w) hb];rfl
   have i:bV C M (mO 9 n.core l)=bV C M n:=by
    unfold bV;rw[bD1<|show ¬((mO 9 n.core l).kind=6\/(mO 9 n.core l).kind=12) by show ¬((9:Int)=6\/(9:Int)=12);decide,bD1<|show ¬(n.kind=6\/n.kind=12) by omega,
          bD2 (show(mO 9 n.core l).kind=1\/(mO 9 n.core l).kind=2\/(mO 9 n.core l).kind=9 from .inr<|.inr rfl),aac,D]
    rfl
   dsimp only
   show _+(_+0)+List.countP _ [_]+_<=_
   cases g:bV C M n with
   |true=>
    have H:jS C M (mO 9 n.core l)=false:=by rw[jS];rw[i,g];rfl
    have I:jS C M n=false:=by rw[jS];rw[g];rfl
    grind[Qf]
   |false=>
    have A:List.countP (fun x=>decide<|cQ x=2/\jS C M x=true) [mO 9 n.core l]<=1:=FR
    have v:nW C M (mO 9 n.core l)=1:=by rw[Ga<|i.trans g];rfl
    have O:(if jS C M n then 1 else 0)<=1:=by split<;>omega
    rw[zJ g,bD2 e,v]
    omega
 rw[bD1 e]
 have J:n.kind=0:=FQ
 have g:bV C M n=false:=Pf FQ
 rw[zJ g,bD1 e,bD1 k]
 have t:(if jS C M n then 1 else 0)<=1:=by split<;>omega
 split
 .have u:mK C M (r.next w)=gC C M w:=by
   show gC C M w+oN _=_;rw[H7 (r:=r.next w) hb];rfl
  dsimp only
  show _+0+0+_<=_
  omega
 .dsimp only;rw[Mp.1,Mp.2];have A:=tW (r:=r.next w) (x:= -1);have v:mK C M (((r.next w).N0 n).iO<|(r.next w).iX<|-1)<=gC C M w+1:=by
   show gC C M w+oN _<=_;rw[oN];split;rw[bD2<|show(((r.next w).N0 n).iO _).aX.kind=0 from J];grind;omega
  omega
theorem Gq:(bT.eY r l m n j).1.1.aH=r.aH:=by
 rw[bT.eY];split;rfl;split;split;unfold bT.get;split;rw[bT.La];split;rfl;rw[Pc.kA];rfl;have b:((r.iL n (j n.aY).1).jY).aH=r.aH:=by rw[bT.jY];split<;>rfl
 rw[bT.J2];split;exact b;grind[Pc.kA];rfl;split<;>rfl
theorem wq (g:n.kind=0\/n.kind=1\/n.kind=2\/n.kind=3):∀y∈(bT.eY r l m n j).2,(y.kind≠9/\y.kind≠1/\y.kind≠2/\y.kind≠12)\/(y.kind=9/\y.core=n.core/\y.aI=l/\(n.kind=1\/n.kind=2)/\(j n.aY).2=false):=by
 have pr:∀{s:Int} {p:FL},∀y∈eT l s p,y.kind≠9/\y.kind≠1/\y.kind≠2/\y.kind≠12:=fun y b=>by
  grind[eT]
 have gr:∀{f:bT} {d:Ln},∀y∈(f.dW l d).2,y.kind≠9/\y.kind≠1/\y.kind≠2/\y.kind≠12:=fun y b=>by
  have:=(H9 y b).1;omega
 rw[bT.eY];split;intro y b;rw[aV.1 b];left;show(10:Int)≠9/\(10:Int)≠1/\(10:Int)≠2/\(10:Int)≠12;decide;split;rename_i e;split;grind[bT.get,bT.La,bT.J2];intro y b;rw[aV.1 b];exact .inr ⟨rfl,rfl,rfl,e,FR⟩;grind
theorem ng (hC:C.Ok) (hI:cX C N M) (X:RY C M V) (J:(M.dJ C (k:Int)).2=0):∃n w,(M.aJ k).1.aH=n::w/\k<C.aF/\
  ph C (M.dJ C (k:Int)).1+(if jS C M n then 1 else 0)<=ph C M:=by
 unfold bU.dJ at J ⊢
 dsimp only at J ⊢
 by_cases B:(eQ C M.aJ (k:Int)<|M.gE C (k:Int)).2.2≠0
 .grind
 rw[bD1 B] at J ⊢
 by_cases v:(M.cD.gJ C (eQ C M.aJ (k:Int)<|M.gE C (k:Int)).2.1).2≠0
 .grind
 rw[bD1 v]
 have B:=cb.1 B
 have v:=cb.1 v
 have t:C.kJ (k:Int):=by
  apply hK;intro e;rw[eQ] at B;grind
 have z:k<C.aF:=by have:=t.2;omega
 have e:eQ C M.aJ (k:Int) (M.gE C (k:Int))=(bA M.aJ k (iN.dJ (M.aJ k) (k:Int)<|M.gE C (k:Int)).1,(iN.dJ (M.aJ k) (k:Int)<|M.gE C (k:Int)).2):=by
  rw[eQ];rw[bD2 t];rfl
 rw[e] at B v ⊢
 dsimp only at B v ⊢
 have E:=(X.rY.aI k z).iU
 have P:(M.aJ k).1.busy=false:=by
  cases P:(M.aJ k).1.busy with
  |false=>rfl
  |true=>grind[iN.dJ]
 have K:(M.aJ k).1.cJ=false:=by
  cases q:(M.aJ k).1.cJ with
  |false=>rfl
  |true=>have:=E.gb q;grind
 cases hw:(M.aJ k).1.aH with
 |nil=>
  simp_all[iN.dJ,bD1]
 |cons n w=>
  refine⟨n,w,rfl,z,?_⟩
  have U:iN.dJ (M.aJ k) (k:Int) (M.gE C (k:Int))=((bT.eY ((M.aJ k).1.next w) (k:Int) (M.aJ k).2 n<|M.gE C (k:Int)).1,(bT.eY ((M.aJ k).1.next w) (k:Int) (M.aJ k).2 n<|M.gE C (k:Int)).2,0):=by
   rw[iN.dJ];rw[bD1 FR,hw]
  rw[U] at v ⊢
  dsimp only at v ⊢
  have⟨hnl,hnc,hnk⟩:=E.aH n FR
  have R:((k:Int)/2)=((k/2:Nat):Int):=FQ
  have hj:∀x,(M.gE C _ x).2=(!fC M.bH _&&yM x _):=fun x=>by
   unfold bU.gE;rw[bD2 t];rfl
  have H:=aCn (C:=C) (M:=M) (m:=(M.aJ k).2) (j:=M.gE C (k:Int)) P K hw hnk hnl FR
  have b:=wq (r:=(M.aJ k).1.next w) (l:=(k:Int)) (m:=(M.aJ k).2) (j:=M.gE C (k:Int)) hnk
  have D:=Gq (r:=(M.aJ k).1.next w) (l:=(k:Int)) (m:=(M.aJ k).2) (n:=n) (j:=M.gE C (k:Int))
  generalize hG:bT.eY _ _ _ n _=G at*
  obtain⟨⟨u,y⟩,out⟩:=G
  dsimp only at H b D v ⊢
  have A:=(gM v).1
  have hE:=Ir (M:=M) v fun x p=>by rcases b x p with h|h<;>omega
  generalize hF:(M.cD.gJ C out).1=F' at A hE ⊢
  have d:bV C ((M.bM F').mJ<|bA M.aJ k (u,y))=bV C M:=rG rfl rfl rfl
  have O:nW C ((M.bM F').mJ<|bA M.aJ k (u,y))=nW C M:=q8 rfl rfl rfl
  have β:∀L,nQ C _ L=nQ C M L:=fun L=>by unfold nQ;rw[O]
  have hB:nQ C M (dR C F')=nQ C M out+nQ C M (dR C M.cD):=by rw[lY A,tA]
  have hD:Qk C ((M.bM F').mJ<|bA M.aJ k (u,y))<=Qk C M+up2 C M out:=by
   refine cL (AO ?_) hE;exact nL fun i _=>Sk d _
  have Y:Qn C ((M.bM F').mJ<|bA M.aJ k (u,y))+mK C M (M.aJ k).1=Qn C M+mK C M u:=by
   have:=pS (f:=fun i=>mK C ((M.bM F').mJ _) (bA M.aJ k (u,y) i).1) (g:=fun i=>mK C M _) z fun i _ Z=>by
    rw[Ab.bO Z];unfold mK;rw[sN d]
   rw[cR] at this;have T:mK C ((M.bM F').mJ<|bA M.aJ k (u,y)) u=mK C M u:=by unfold mK;rw[sN d]
   rw[T] at this;exact this
  have hA:Mq C ((M.bM F').mJ<|bA M.aJ k (u,y))<=Mq C M:=by
   refine iI fun i _=>xN rfl rfl rfl FR fun a ha γ q=>⟨q.pM,q.al,q.aw,q.kn,q.Nw,fun x p=>?_,fun x p=>?_⟩;rcases cg.1 (A.mem_iff.1 p) with p|p;rcases b x p with h|⟨h9,δ,ε,W,α⟩;grind[Fo];refine cr fun Q=>?_;have S:=q.wt n FR;have S:=DA S;grind;exact q.ln x p;have p:x∈(bA M.aJ k (u,y) a.aI.toNat).1.aH:=p;by_cases I:a.aI.toNat=k;rw[I,cR] at p;rw[D] at p;exact q.wt x (by rw[I,hw];exact aW _ p);rw[Ab.bO I] at p;exact q.wt x p
  grind[da,bA,ph]
theorem Vc {k k':Mon} (h:k'.eU=k.eU):k'.jX=k.jX:=by
 grind[Mon.jX]
theorem Er (d:M'.aD=M.aD) (e2:M'.aT=M.aT) (b:M'.bH.eU=M.bH.eU):bV C M'=bV C M:=by
 have e:fC M'.bH=fC M.bH:=by funext g;unfold fC;rw[Vc b]
 funext n;simp_all[bV,uK,yY]
def aOo (b:M'.aD=M.aD) (e2:M'.aT=M.aT) (d:M'.bH.eU=M.bH.eU):nW C M'=nW C M:=by
 unfold nW;rw[Er b e2 d,e2]
theorem aBo {g b:Nat}:∀n:Nat,eZ (fun l=>if l/2=g then b else 0) n<=(if n<=g*2 then 0 else if n=g*2+1 then b else b+b)
 |0=>by exact bb _
 |n+1=>by
  have d:=aBo (g:=g) (b:=b) n;grind[eZ]
theorem aCe (d:M'.aD c=M.aD c) (b:M'.aT c=M.aT c) (e:M'.bR c=M.bR c) (h:M'.bH.eU=M.bH.eU) (i:M'.bH.gZ (c:Int)=M.bH.gZ (c:Int)) (k:∀a,nX C M c a->nX C M' c a):hM C M' c<=hM C M c:=by
 have f:fC M'.bH=fC M.bH:=by funext g;unfold fC;rw[Vc h]
 unfold hM;rw[d,b,e,i,f];cases ha:qZ C _ with
 |none=>grind
 |some a=>
  refine CW ?_ _;split;grind;refine CW ?_ _;by_cases j:tR C M c a=true;simp_all[bD2,nB,bb];grind
theorem aJ7 (hC:C.Ok) {k k':Mon} (b:jE C k) (d:jE C k') (h:∀g,rc k' g=rc k g) {i:Int}:k'.gZ i=k.gZ i:=by
 grind[tT]
theorem u7 {k:Mon} {aB g core:Int} (h:(k.eE aB g core).2.2=0):k.kJ g/\∃r,k.run g=some r/\r.phase=1/\k.eE aB g core=(k.dL g.toNat<|some (r.dA core).gX,(r.dA core).none,0):=by
 rw[Mon.eE] at h ⊢;grind
theorem uq (hC:C.Ok) (X:cX C N M) (hR:RY C M V) (hS:Sw C M) {l:IT} (hc:(c:Int)<C.aB) (hw:w<4) (A:M.cD c w=n::l) (O:n.kind=7) (h0:(M.dE C (c:Int) (w:Int) 0).2=0)
  (t:jE C (M.dE C (c:Int) (w:Int) 0).1.bH):ph C (M.dE C (c:Int) (w:Int) 0).1+1<=ph C M:=by
 have y:=N5 X hc hw A h0
 have I:=y.t0
 have hp:=y.cI
 rw[y.e] at t ⊢
 have et:M.dF C n=((if(M.bH.eE C.aB n.no n.core).2.1 then(M.jI (M.bH.eE C.aB n.no n.core).1).mJ (oE C M.aJ n.no) else M.jI (M.bH.eE C.aB n.no n.core).1),[],(M.bH.eE C.aB n.no n.core).2.2):=by
  rw[bU.dF];rw[aaa,aaa,aaa,aaa,aaa,bD2 O]
 have u:∀g,rc (M.bH.eE C.aB n.no n.core).1 g=rc M.bH g:=Ko
 rw[et] at I t ⊢
 dsimp only at I t ⊢
 have⟨hhas,r,hrun,hp1,hd⟩:=u7 I
 have R:=Ky y.gG<|.inl O
 have⟨g,hg⟩:=ay R.1
 have J:(g:Int)<C.aM:=FQ
 have γ:=oK J
 have ε:M.bH.eI g=some r:=by
  rw[Mon.run] at hrun;grind
 have K:n.no.toNat=g:=FQ
 rw[hd] at u t ⊢
 dsimp only at u t ⊢
 rw[K] at u t ⊢
 generalize z:M.bH.dL g _=k at u t ⊢
 have j:k.eU=M.bH.eU:=by rw[<-z];rfl
 have hF:((M.cD.set c w l).gJ C []).1=M.cD.set c w l:=rfl
 rw[hF]
 have U:∀l:Nat,l<C.aF->(M.aJ l).1.aH.length<=5:=fun l A=>Iq (hR.rY.aI l A)<|cL (hS.sw l A) IG
 have G:∀{H':nC} {d:Nat},jE C k->(∀l:Nat,∀x∈(H' l).1.aH,x∈(M.aJ l).1.aH\/x.kind=0)->Qn C {M with bH:=k,aJ:=H',cD:=M.cD.set c w l}<=Qn C M+d->Cg k g+d<=Cg M.bH g->
   ph C {M with bH:=k,aJ:=H',cD:=M.cD.set c w l}+1<=ph C M:=by
  intro H' d P W β ζ
  have p:bV C {M with bH:=k,aJ:=H',cD:=M.cD.set c w l}=bV C M:=Er rfl rfl j
  have S:nW C {M with bH:=k,aJ:=H',cD:=M.cD.set c w l}=nW C M:=aOo rfl rfl j
  have δ:∀L,nQ C _ L=nQ C M L:=fun L=>by unfold nQ;rw[S]
  have Q:nW C M n=1:=by rw[Ni FQ,O];rfl
  have hB:=lY (C:=C) (M:=M) hp
  rw[hZ,Q] at hB
  have hD:Qk C {M with bH:=k,aJ:=H',cD:=M.cD.set c w l}<=Qk C M:=by
   refine cL (AO ?_)<|Ls hc A;exact nL fun i _=>Sk p _
  have hA:Mq C {M with bH:=k,aJ:=H',cD:=M.cD.set c w l}<=Mq C M:=by
   refine iI fun i _=>aCe rfl rfl rfl j (aJ7 hC X.bH P u) fun a q=>⟨q.pM,q.al,q.aw,q.kn,by rw[show(k.jX a.aR)=M.bH.jX a.aR by rw[Vc j]];exact q.Nw,fun x v=>?_,fun x v=>?_⟩;rw[Vc j];exact q.ln x FR;rw[Vc j];rcases W _ x v with h|h;exact q.wt x h;grind[Fo]
  have hU:da C {M with bH:=k,aJ:=H',cD:=M.cD.set c w l}+Cg M.bH g=da C M+Cg k g:=by
   refine pS (f:=Cg k) FQ fun i _ hi=>?_;unfold Cg;rw[<-z];show(match bA M.bH.eI g _ i with|some r=>_|none=>_)=_;rw[Ab.bO hi];try rfl
  unfold ph
  grind
 have Y:Cg M.bH g=30:=by rw[Cg];grind
 have T:k.eI g=some (r.dA n.core).gX:=by rw[<-z];exact cR
 by_cases B:(r.dA n.core).none=true
 .rw[bD2 B] at t ⊢;have D:Cg k g=0:=by
   rw[Cg];rw[T];have:((r.dA n.core).gX).phase=2:=by
    show(if(r.dA n.core).none=true then(2:Int) else _)=2;rw[bD2 B]
   grind
  have E:∀l:Nat,oE C M.aJ n.no l=if l/2=g then iN.oz _ l else M.aJ l:=fun l=>by
   have Z:n.no*2=((g*2:Nat):Int):=FQ
   have e2:n.no*2+1=((g*2+1:Nat):Int):=FQ
   unfold oE jT;rw[e2,Z,bD2 GL,bD2 GL,aL,aL];dsimp only;by_cases e:l=g*2;subst e;rw[Ab.bO FQ,Ab.dI,aac];by_cases e2:l=g*2+1;subst e2;rw[Ab.dI,aac,Ab.bO FQ];rw[Ab.bO e2,Ab.bO e,aaa]
  refine G (H':=oE C M.aJ n.no) (d:=30) t (fun l x v=>?_) ?_ FQ
  .rw[E] at v;split at v
   .have v:=v;rcases cg.1 v with v|v
    .grind
    .right;rw[aV.1 v];rfl
   grind
  .have p:bV C {M with bH:=k,aJ:=oE C M.aJ n.no,cD:=M.cD.set c w l}=bV C M:=Er rfl rfl j;have h7:=aBo (g:=g) (b:=15) C.aF;have h8:(if C.aF<=g*2 then 0 else if C.aF=g*2+1 then 15 else 15+15)<=30:=FR
   have h9:Qn C {M with bH:=k,aJ:=oE C M.aJ n.no,cD:=M.cD.set c w l}<=eZ (fun l=>mK C M (M.aJ l).1+(if l/2=g then 15 else 0)) C.aF:=iI fun l A=>by
    show mK C _ (oE C M.aJ n.no l).1<=_;unfold mK;rw[sN p,E];by_cases e:l/2=g;rw[bD2 e,bD2 e];show gC C M ((M.aJ l).1.aH++[pQ l])+oN (M.aJ l).1<=_;have H:B0 C M (pQ l)=10:=by rw[zJ<|Pf<|by show(0:Int)≠6/\(0:Int)≠12/\(0:Int)≠1/\(0:Int)≠2/\(0:Int)≠9;decide];rfl
    have α:=U l A;rw[Pg,H];split<;>omega;grind
   grind[lT,Qn]
 .rw[bD1 B] at t ⊢;have D:Cg k g<=30:=by rw[Cg];grind
  refine G (H':=M.aJ) (d:=0) t FR ?_ FQ
  have p:bV C {M with bH:=k,aJ:=M.aJ,cD:=M.cD.set c w l}=bV C M:=Er rfl rfl j
  refine AO<|nL fun l _=>?_
  grind[mK,sN]
theorem aOu {k:jO} {f:Nat} (h:(i:Int)<C.aB) (b:∀x,bV C M x=true->bV C ((M.eP i k).bM F) x=true) (hD:yA C M F<=yA C M M.cD)
  (A:∀j:Nat,(j:Int)<C.aB->j≠i->∀a,nX C M j a->nX C ((M.eP i k).bM F) j a) (hA:hM C ((M.eP i k).bM F) i<=hM C M i+f)
  (hB:nQ C ((M.eP i k).bM F) (dR C F)+f+d<=nQ C M (dR C M.cD)+e):ph C ((M.eP i k).bM F)+d<=ph C M+e:=by
 have u:Mq C ((M.eP i k).bM F)<=Mq C M+f:=by
  have z:=rE (f:=hM C<|(M.eP i k).bM F) (g:=hM C M) (k:=i) (n:=C.aB.toNat) FQ fun j p q=>by
   simp_all[xN,Ab.bO,bb]
  unfold Mq;omega
 have v:Qk C _<=Qk C M:=cL (iI fun j p=>z6 fun x t=>b x) hD
 have w:Qn C _<=Qn C M:=iI fun l B=>by
  unfold mK;exact BP (M3 fun x t=>b x) _
 have y:da C ((M.eP i k).bM F)=da C M:=rfl
 unfold ph
 grind
theorem lz (h:mB C M.aT M.bH (n::L)) (d:(i:Int)<C.aB) (b:(g:Int)<C.aM) (hc:n.core=(i:Int)) (j:n.kind=13) (f:n.no=(g:Int)):fC M.bH g=true:=by
 have e:=h.cd g i d;rw[rQ,aac] at e;rw[fC,h.wI g b];grind[Fl]
theorem aIa {k:jO} {g b:Int} (e:0<=g/\g<C.aM) (d:b≠g):vS (k.drop C g).1 b=vS k b:=by
 grind[jO.drop,vS,jC]
theorem Wa {k:jO} {g:Int} (b:0<=g/\g<C.aM):vS (k.drop C g).1 g=false:=by
 grind[jO.drop,vS,jC]
end Go.Mc
