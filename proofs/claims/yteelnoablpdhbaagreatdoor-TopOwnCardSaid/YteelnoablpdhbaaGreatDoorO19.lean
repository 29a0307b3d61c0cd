/- A part of the proof. -/
import Derived.Test.YteelnoablpdhbaaGreatDoorO13
import Derived.Lib.Bytealg
import Derived.Lib.Atoi
import Derived.Test.YteelnoablpdhbaaGreatDoorO12
import Derived.Test.YteelnoablpdhbaaGreatDoorO9
import Derived.Test.YteelnoablpdhbaaGreatDoorO18
import Derived.Test.YteelnoablpdhbaaGreatDoorO16
import Derived.Test.YteelnoablpdhbaaGreatDoorO8
import Derived.Test.YteelnoablpdhbaaGreatDoorO17
import Derived.Test.YteelnoablpdhbaaGreatDoorO10
import Derived.Test.YteelnoablpdhbaaGreatDoorO11
import Derived.Test.YteelnoablpdhbaaGreatDoorO15
set_option linter.all false
set_option maxRecDepth 100000
open Go Go.Ab
namespace Go.Proofs.Z
noncomputable section
def KV:FuncId->EK->HQ:=fun f a=>match f,a with
 |51,[.string s,.string ⟨⟨[c]⟩⟩]=>some (.val<|I<|Lib.countByte s.data.toList c)
 |147,[.string s,.string ⟨⟨[c]⟩⟩]=>some (.val<|I<|Lib.indexByte s.data.toList c)
 |149,[.string s]=>if s.size<=18 then(Lib.atoi s.data.toList).map fun v=> .val (.tuple ⟨[I v,.nilIface]⟩) else none
 |_,_=>none
abbrev K1:FuncId->EK->HQ:=orK KV K0
end
variable (E:Nat->TypeId) (Z:Nat->Nat×Nat)
def aV9:((run Pr K1 2000 (.call 20 [.string aOu])<|Md gls E Z).any fun r=>(unB true r.1.v).any fun a=>aJs gls.length a [Sb 0 3,I 0,I 0] [.cells prA 69 (0,0) false] (aM9 a) r.2)=true:=EU
end Go.Proofs.Z
variable {m:Nat}
namespace Go.Proofs.Z
open Go.RowKit
noncomputable def aVy (B:Nat) (hB:12<=B):Lc Pr B K1:=(aIo B hB).or KV
 (fun f b v w a _=>by
  unfold KV at a;split at a;rename_i s c;cases a;exact⟨rfl,(Any.strings_Count_one Tryz.td s c w).mono fun e k ⟨d,i⟩=>⟨⟨_,d,fun _=>fU _ rfl⟩,by rw[i];exact Below.refl _ _⟩⟩;rename_i s c;cases a;exact⟨rfl,(Any.stringslite_Index_one (ρ:=Tryz.Lo) {Tryz.td with} s c w).mono fun e k ⟨d,i⟩=>⟨⟨_,d,fun _=>fU _ rfl⟩,by rw[i];exact Below.refl _ _⟩⟩;rename_i s;split at a;rename_i q;obtain⟨n,p,e⟩:=aV.1 a;cases e;exact⟨rfl,(Any.internal_strconv_Atoi Tryz.aL5 s n q p w).mono fun e k ⟨d,t,i⟩=>⟨⟨_,d,fun _=>fU _ rfl⟩,by rw[i];exact⟨rfl,rfl,rfl,by rw[Lib.bytesWorld_size];omega,fun j o=>Lib.bytesWorld_at_old w _ t j o⟩⟩⟩;cases a;cases a)
 (fun f b g r a=>by
  unfold KV at a;split at a;cases a;cases a;split at a;obtain⟨_,_,e⟩:=aV.1 a;cases e;cases a;cases a)
 (fun f b H a=>by
  unfold KV at a;split at a;cases a;cases a;split at a;obtain⟨_,_,e⟩:=aV.1 a;cases e;cases a;cases a)
variable {ρ:jB} {w:World} {σ:Sg} {T:Nat->Bool}
def aPl {k:Nat} {a:Value} (h:σ k=(m,0,0)) (b:T k=true) (c:aZ ρ (.pointer<|some ⟨m,0,none⟩) a):aZ (Gq σ T ρ) (.pointer<|some ⟨k,0,none⟩) a:=
 aEl (v:= .pointer (some ⟨k,0,none⟩)) b (by show Value.pointer (some ⟨(σ k).1,(σ k).2.1+0,none⟩)=_;rw[h]) c
def aG6 {c s:EK} {a:Value} (hc:c.all (okV T)=true) (h:Rcs σ c s) (d:aZ ρ (.agg ⟨s⟩) a):aZ (Gq σ T ρ) (.agg ⟨c⟩) a:=by
 obtain⟨b,k,e⟩:=d;exact⟨b,V9 hc h k,e⟩
noncomputable def aVw (B:Nat) (hB:12<=B):Lc Pr B K:=(aIo B hB).or KH
 (fun f k v w i _=>by unfold KH at i;split at i<;>cases i)
 (fun f k g D i=>by unfold KH at i;split at i<;>cases i)
 (fun f k H i h v F hF ρ w q u j t=>by
  unfold KH at i;split at i;rename_i s;cases i;unfold FP at hF;split at hF;rename_i p;obtain⟨rfl,σ,E,Z,o⟩:=p;cases hF;obtain⟨x,_,n,rfl,rfl⟩:=t;exact aFh true (aVy _<|Bw j) j xR (Bw j) u o (bH.cons (by rw[wX _ _ rfl n];exact fU _ rfl) bH.nil)<|aV9 E Z;cases hF;rename_i c s;cases i;unfold FC at hF;split at hF;rename_i p;obtain⟨a,σ,E,Z,o,rfl,e⟩:=p;cases hF;obtain⟨x,_,n,⟨A,_,r,rfl,rfl⟩,rfl⟩:=t;exact Ze (aIo _<|Bw j) j xR (Bw j) u o (bH.cons (by rw[wX _ _ rfl n];exact fU _ rfl)<|bH.cons (aG6 (by cases a<;>rfl) e r) bH.nil) (aVu E Z a) rfl;cases hF;rename_i s m;cases i;unfold FH at hF;split at hF;rename_i p;obtain⟨a,b,c,d,σ,E,Z,o,y,z⟩:=p;cases hF;obtain⟨x,_,n,⟨A,_,r,rfl,rfl⟩,rfl⟩:=t;exact Ze (aIo _<|Bw j) j xR (Bw j) u o (bH.cons (aG6 rfl z n)<|bH.cons (aPl y rfl r) bH.nil) (aW4 a b c d E Z) rfl;cases hF;cases i)
end Go.Proofs.Z
variable {k:Value->Prop} {a al:EN} {N c f hb i n p3 q t:Nat} {L L' M:HL} {Q:Value->AH->Prop} {p:Nat->Bool} {ov pv t2 t72 vv:Value} {os vs:EL}
section
attribute [local irreducible] bQ Br sA vD vT F4 pC yQ nJ Uh iZ pV tD sH rQ pG vX Sn Rx R8 Rz R0 Xm mQ qJ kH jX Ao Jw nA Qv Ub B0 Cl Cx Xf xZ uP mK gY dD cQ
namespace Go.Proofs.Z
open Go.Hm Go.At Go.Mc Go.Nt
def fE (q:Nat):EK:=[.func (.func 328) #[] #[IE q]]
instance:Fx fE 1:=⟨fun _=>rfl,fun _=>rfl⟩
abbrev fns (a:EN) (c:Nat) (l:EM):HP:=ls fE 1 148 a c l
def dF (F:fI):Nat->HM:=fun k=>F (k/4)<|k % 4
def B1 (F:fI):Nat->Nat
 |0=>0
 |n+1=>B1 F n+(dF F n).length
def Wl {F:fI} (a:∀c w,(F c w).length<=500):∀n,B1 F n<=500*n
 |0=>ba _
 |n+1=>by
  have b:=Wl a n;have d:=a (n/4)<|n % 4;show B1 F n+(F (n/4)<|n % 4).length<=_;omega
def dk {l done:EM} {y:Nat} (h:done++[y]<+:l):done.length<l.length/\l.getD done.length 0=y:=by
 obtain⟨t,rfl⟩:=h;refine⟨EV,?_⟩;simp[ay]
variable {G:Bg} {h:AH} {C:bT}
abbrev E7:Nat->Nat->HM->HP:=fun _ q l=>vc q l
def aSd {l:EM} (n:Hs G h L) [m:dH (fns a c) L l L'] (f:i<l.length) (g:k (.func (.func 328) #[] #[IE<|l.getD i 0])):bQ (mQ 1 (.slice a l.length c)<|I i) fun p=>bQ (sA h p) k:=by
 obtain⟨b,o,rfl,d⟩:=(m.of n).gF ER;apply dR f;exact aD (b:=b) (o:=o) (j:=i*1) d (I4 (enc:=fE) (W:=1) (j:=0) (by rw[ay,aL f];rfl) rfl) g
def Lf (z:Nat) (l:EM):HP:=xC fun x:EN×Nat=>sp [aG z 0 [.slice x.1 l.length x.2],fns x.1 x.2 l]
variable {F:fI}
def aLp {t:Value} (hC:C.Ok) (u:∀c w,(F c w).length<=500) (z:(i:Int)<C.aE)
  (A:∀ql a c j,ql.length=4*i+4->Hs G j (fns a c ql::qF E7 ql (dF F)::pU C f F::L)->Dd 85 6 [] Q [IE f,.slice a ql.length c,t,I i] j):
  ∀(g w:Nat) (ql:EM) (a:EN) (c:Nat) (h:AH),w+g=4->ql.length=4*i+w->Hs G h (fns a c ql::qF E7 ql (dF F)::pU C f F::L)->Dd 85 4 [] Q [IE f,.slice a ql.length c,I i,t,I i,I w] h:=by
 have H:=hC.1
 intro g
 induction g with
 |zero=>
  intro w ql a c h B k b
  exact bW (aQ<|aaa<|A ql a c h ER b)
 |succ g D=>
  intro w ql a c h B k b
  refine bW<|aQ<|aad<|bW<|dj (C:=C) (F:=F) (x:=i) (y:=w) hC u z ER b fun q h b=>?_
  have r:dF F ql.length=F i w:=by
   rw[dF];rw[k,show(4*i+w)/4=i by omega,show(4*i+w) % 4=w by omega]
  have b:Hs G h (E7 ql.length q (dF F ql.length)::pU C f F::fns a c ql::qF E7 ql (dF F)::L):=by rw[r];exact b.to
  refine aM (c:=fE q) rfl<|dC (W:=1) (n:=1) (c:=1) b rfl rfl rfl fun d h b=>?_
  have b:=nH (enc:=fE) (W:=1) (e:=148) (x:=q) b
  refine jO (enc:=fE) (W:=1) (e:=148) (l:=ql) (l2:=[q]) (a:=a) (c:=c) (a2:=some d) (c2:=1) b EW fun o p h b=>?_
  exact aac<|D (w+1) (ql++[q]) o p h ER EW (Ni (R:=E7) (l:=ql) (q:=q) (s:=dF F)<|b.bZ (E7 ql.length q<|dF F ql.length)<|qF E7 ql<|dF F).to
def rh (hC:C.Ok) (n:∀c w,(F c w).length<=500) (d:Hs G h L) [m:dH (pU C f) L F L']
  (q:∀z ql j,ql.length=4*C.aE.toNat->Hs G j (Lf z ql::qF E7 ql (dF F)::pU C f F::L')->Q (.func (.func 222) #[] #[IE z]) j):ID 85 [IE f] h Q:=by
 have u:=hC.1
 have loop:∀(g i:Nat) (ql:EM) (a:EN) (c:Nat) (h:AH),i+g=C.aE.toNat->ql.length=4*i->Hs G h (fns a c ql::qF E7 ql (dF F)::pU C f F::L')->Dd 85 2 [] Q [IE f,.slice a ql.length c,I C.aE,I i] h:=by
  intro g;induction g with
  |zero=>
   intro i ql a c h p k d;refine bW<|aQ<|aaa<|cW<|dY d fun z h d=>q z ql h ER ?_;exact Hs.tG (A:=fun x:EN×Nat=>sp [aG z 0 [.slice x.1 ql.length x.2],fns x.1 x.2 ql]) (a,c) d.Bc
  |succ g r=>
   intro i ql a c h p k d;refine bW<|aQ<|aad<|bW ?_;refine aLp (f:=f) (i:=i) (t:=I C.aE) hC n ER (fun ql a c h k d=>?_) 4 0 ql a c h rfl ER d;exact bW<|aac<|r (i+1) ql a c h ER ER d
 have⟨pl,d⟩:=A2<|m.of d
 refine cW<|Rj<|eV<|bW<|aB<|aA<|aA<|ai f d (v:=I C.aE) rfl ?_
 exact loop C.aE.toNat 0 [] none 0 h ER rfl<|oI (enc:=fE) (W:=1) (e:=148)<|Ny (R:=E7) (s:=dF F)<|pT d
def aBr {z:Nat} {l:EM} (hb:l.length<=1000):lh Pr K G 222 [] [IE z] (Lf z l) (l.map fE):=by
 intro n J y L h Q d B q r;have⟨⟨a,c⟩,d⟩:=d.uI;have d:=d.yO;have g:∀{h:AH} {M:HL},Hs G h (aG z 0 [.slice a l.length c]::fns a c l::M)->Hs G h (Lf z l::M):=fun d=>Hs.tG (A:=fun x:EN×Nat=>sp [aG z 0 [.slice x.1 l.length x.2],fns x.1 x.2 l]) (a,c) d.Bc;refine cW<|ai z d rfl<|cE ?_;have loop:∀(f i:Nat) (h:AH),i+f=l.length->Hs G h (aG z 0 [.slice a l.length c]::fns a c l::n ((l.drop i).map fE)::L)->Dd 222 1 [] Q [y,.slice a l.length c,I l.length,I i] h:=by
  intro f;induction f with
  |zero=>
   intro i h t d;rw[eg ER] at d;exact bW (aQ<|aaa<|q _ _<|g d)
  |succ f D=>
   intro i h t d;have j:i<l.length:=ER
   have s:l.drop i=l.getD i 0::l.drop (i+1):=by rw[k9 j,ay,aL j];rfl
   rw[s,kx] at d;refine bW<|aQ<|aad<|bW<|aSd (l:=l) (a:=a) (c:=c) d j ?_;refine(B _ _ h _<|d.aN<|n (fE (l.getD i 0)::((l.drop<|i+1).map fE))).mono fun v p u=>?_;rcases u with⟨rfl,k⟩|⟨rfl,k⟩;exact cG<|cF<|bW<|aac<|D (i+1) p ER k.to;exact cG<|eV<|r _ _<|g k.to
 exact loop l.length 0 h ER (by rwa [kt])
abbrev flX (p:Nat) (e:Nat->Value) (d l:Nat) (ql:EM) (F:fI) (done:EM):HP:=sp [iI Pr 68 (iM 58) 13 e d l (.ready,none),aG p 0 [I<|B1 F done.length],qF E7 ql<|dF F]
abbrev flY (p n:Nat) (e e2:Nat->Value) (d l l2:Nat) (done:HM):HP:=sp [iI Pr 68 (iM 938) 13 e2 d l2 (.ready,none),iI Pr 68 (iM 58) 13 e d l (.busy,none),aG p 0 [I (n+done.length:Nat)]]
theorem y5 (hC:C.Ok) (A:∀c w,(F c w).length<=500) (a:Hs G h L) [m:dH (pU C f) L F L']
  (hk:∀H,Hs G H (pU C f F::L')->Q (I<|B1 F<|4*C.aE.toNat) H):ID 68 [IE f] h Q:=by
 have hc:=hC.1
 refine cW<|bX (m.of a) fun p h a=>an (b:=p) a fun h a=>rh (C:=C) (F:=F) hC A a fun z g h D a=>?_
 refine jM a fun d h a=>?_
 intro e he
 refine kY a fun l h a=>pX rfl ?_
 have a:Hs G h (Lf z g::flX p e d l g F []::mk d ()::pU C f F::L'):=by
  have a:=(a.cT (iI Pr 68 (iM 58) 13 e d l (.ready,none)) (aG p 0 [I 0])<|qF E7 g<|dF F).Ry;have a:Hs G h (flX p e d l g F []::_):=a;exact a.to
 refine(aBr (z:=z) (l:=g) ER).C2 (X:=flX p e d l g F) (Z:=fun _ _=>xG False) a ?_ ?_ ?_
 .intro done y h N O a;have a:=a.B9;have⟨hdl,hy⟩:=dk O;have a:=gC (R:=E7) (l:=g) (s:=dF F) hdl a;rw[hy] at a;refine rW (qC a) he<|gD a fun h a=>S4 a ?_;intro n B;refine kY a fun t h a=>pX rfl ?_;have a:Hs G h (vc y (dF F done.length)::flY p (B1 F done.length) e n d l t []::Fs E7 g (dF F) done.length::N):=by
   have a:=(a.cT (iI Pr 68 (iM 938) 13 n d t (.ready,none)) (iI Pr 68 (iM 58) 13 e d l (.busy,none))<|aG p 0 [I<|B1 F done.length]).Ry;exact a.to
  have J:(dF F done.length).length<=500:=A _ _
  have U:=Wl A done.length
  refine(aNl (q:=y) (l:=dF F done.length) ER).C2 (X:=flY p (B1 F done.length) e n d l t) (Z:=fun _ _=>xG False) a ?_ ?_ ?_
  .intro k x h N r a;have a:=a.B9;have α:k.length<=500:=by have:=r.length_le;simp at this;omega
   refine rW (qC a) B<|gD a fun h a=>ai p a rfl<|aac<|an (b:=p) a fun h a=>iE a fun h a=> .inl ⟨rfl,?_⟩
   have u:((B1 F done.length+k.length:Nat):Int)+1=((B1 F done.length+(k++[x]).length:Nat):Int):=EW
   rw[u] at a
   exact((a.cT (iI Pr 68 (iM 938) 13 n d t (.ready,none)) (iI Pr 68 (iM 58) 13 e d l (.busy,none))<|aG p 0 [I (B1 F done.length+(k++[x]).length:Nat)]).Ry).to
  .intro v h a;have a:=(a.aN<|flY p (B1 F done.length) e n d l t<|dF F done.length).B9;refine kU a fun h a=>kW<|iE a fun h a=> .inl ⟨rfl,?_⟩;have u:B1 F done.length+(dF F done.length).length=B1 F (done++[y]).length:=by rw[bj];rfl
   rw[u] at a
   have Y:vc y (dF F done.length)=E7 done.length (g.getD done.length 0) (dF F done.length):=by rw[hy]
   rw[Y] at a
   have a:=Az (R:=E7) (l:=g) (s:=dF F) (i:=done.length) (x:=dF F done.length) hdl<|a.bZ (E7 done.length (g.getD done.length 0)<|dF F done.length)<|Fs E7 g (dF F) done.length
   have V:(fun j=>if j=done.length then dF F done.length else dF F j)=dF F:=GX
   rw[V] at a
   exact((a.cT (iI Pr 68 (iM 58) 13 e d l (.ready,none)) (aG p 0 [I<|B1 F (done++[y]).length])<|qF E7 g<|dF F).Ry).to
  .intro k x v h r a;have⟨hf,a⟩:=(a.aN<|xG False).X6;exact hf.elim
 .intro v h a;have a:=(a.aN<|flX p e d l g F g).B9;rw[D] at a;exact kU a fun h a=>kW<|ai p a rfl<|mH a fun h a=>kS<|hk _ a.to
 .intro done y v h O a;have⟨hf,a⟩:=(a.aN<|xG False).X6;exact hf.elim
end Go.Proofs.Z
namespace Go.Proofs.Z
open Go.Hm Go.At Go.Mc Go.Ct Go.Nt
def Tt {F:fI}:∀n,((List.range n).flatMap fun c=>(List.range 4).flatMap fun w=>F c w).length=B1 F (4*n)
 |0=>rfl
 |n+1=>by
  rw[er (n:=n),u3,bj,Tt n];have e:B1 F (4*(n+1))=B1 F (4*n)+(F n 0).length+(F n 1).length+(F n 2).length+(F n 3).length:=by
   show B1 F (4*n)+(F ((4*n)/4)<|(4*n) % 4).length+(F ((4*n+1)/4)<|(4*n+1) % 4).length+(F ((4*n+2)/4)<|(4*n+2) % 4).length+(F ((4*n+3)/4)<|(4*n+3) % 4).length=_;rw[show(4*n)/4=n by omega,show(4*n) % 4=0 by omega,show(4*n+1)/4=n by omega,show(4*n+1) % 4=1 by omega,show(4*n+2)/4=n by omega,show(4*n+2) % 4=2 by omega,show(4*n+3)/4=n by omega,show(4*n+3) % 4=3 by omega]
  have a:(([n]:EM).flatMap fun c=>(List.range 4).flatMap fun w=>F c w).length=(F n 0).length+(F n 1).length+(F n 2).length+(F n 3).length:=by
   simp[er];omega
  omega
def aHt (a:i<n) (h:p i=false):(List.range n).all p=false:=by
 rw[List.all_eq_false];exact⟨i,k7.2 a,by rw[h];decide⟩
def vj (h:∀i,i<n->p i=true):(List.range n).all p=true:=lP.2 fun i a=>h i<|k7.1 a
variable {G:Bg} {h:AH} {Cf:bT} {M:cN}
theorem Jp (hC:Cf.Ok) (hG:Gb G) (hL:gq Cf M.bN) (hi:yT Cf M.aK (2^30)) (d:Hs G h L) [mm:dH (bO G Cf m) L M L'] (n:∀Y,Hs G Y (bO G Cf m M::L')->Q (.bool<|M.over Cf) Y):ID 26 [IE m] h Q:=by
 have hc:=hC.1;have γ:=bT.eJ hC;have r:=hL.O7 hC;have B:=Tt (F:=M.bN) Cf.aE.toNat;have α:=Wl r<|4*Cf.aE.toNat;have⟨x,k,d⟩:=cY<|mm.of d;refine cW<|cZ<|cF<|aB<|aA<|ai m d rfl<|y5 (C:=Cf) (F:=M.bN) hC r d fun h d=>?_;have d:=bP (m:=m) (x:=x) M k d;unfold cN.over cN.gf at n;refine nU<|bC (fun h1=>?_) fun h1=>bW ?_;rw[ec fun e=>by rw[e] at B;simp at B;omega,u7,u7] at n;exact n _ d;rw[c8<|gg ER,AJ] at n;have aF:∀(f l:Nat) (h:AH),(List.range Cf.aE.toNat).all (fun i=>(M.aC i).over&& !(M.aJ i).pY&& !(M.aU i).eN)=true->l+f=Cf.aF->(∀j,j<l->(M.aK j).1.aY=[])->Hs G h (bO G Cf m M::L')->Dd 26 6 [] Q [IE m,I Cf.aF,I l] h:=by
  intro f;induction f with
  |zero=>
   intro l h D V u d;rw[D,AJ,vj fun j q=>c8<|u j ER] at n;exact bW (aQ<|aaa<|n _ d)
  |succ f X=>
   intro l h D V u d;have⟨x,k,d⟩:=cY d;refine bW<|aQ<|aad<|bW<|aB<|aA<|ai m d rfl<|H.aEp (C:=Cf) (H:=M.aK) (x:=l) d fun d=>?_;have d:=bP (m:=m) (x:=x) M k d;have e:Ig Cf M.aK l=(M.aK l).1.aY.length:=by rw[Ig];rw[aXg<|by rw[bT.fY];omega,aP]
   rw[e];refine nU<|bC (fun O=>?_) fun O=>bW<|aac<|X (l+1) h D ER (fun j q=>?_) d;rw[D,AJ,aHt (i:=l) ER<|ec fun e=>by rw[e] at O;simp at O] at n;exact n _ d;by_cases e:j=l;subst e;exact gg ER;exact u j ER
 have aE:∀(f i:Nat) (x:MN) (h:AH),ig Cf x->i+f=Cf.aE.toNat->(∀j,j<i->((M.aC j).over&& !(M.aJ j).pY&& !(M.aU j).eN)=true)->Hs G h (jG G Cf m x M::L')->Dd 26 2 [] Q [IE m,.slice x.ac x.lc.length x.cc,I x.lc.length,I i] h:=by
  intro f;induction f with
  |zero=>
   intro i x h k U u d;have β:=k.1;refine bW<|aQ<|aaa<|bW ?_;have⟨k,d⟩:=gT d;refine aB<|aA<|lD (b:=m) (o:=0) d ET (l:=Cf.enc) rfl rfl<|qK (C:=Cf) hC hG.Gj d fun h d=>?_;exact aF Cf.aF 0 h (vj fun j q=>u j ER) ER (fun j q=>ER) (bP (m:=m) (x:=x) M k d)
  |succ f X=>
   intro i x h k U u d;have⟨_,d⟩:=gT d;obtain⟨l1,l2,l3⟩:=k;have A:i<x.lc.length:=ER
   have y:i<x.lk.length:=ER
   have z:i<x.lq.length:=ER
   refine bW<|aQ<|aad<|bW<|G4 d A<|aB<|aA<|ai m d rfl<|Gv d y ?_;have d:=gC (R:=rX G Cf) (l:=x.lk) (s:=M.aJ) y d;refine C.aDt (C:=Cf) (core:=i) (c:=x.lk.getD i 0) (s:=M.aJ i) d fun h d=>aH rfl<|aH rfl<|aH rfl ?_;have d:=Az (R:=rX G Cf) (l:=x.lk) (s:=M.aJ) (i:=i) (x:=M.aJ i) y<|d.bZ (C.jP G (x.lk.getD i 0) Cf i<|M.aJ i)<|Fs (rX G Cf) x.lk M.aJ i;have e4:(fun j=>if j=i then M.aJ i else M.aJ j)=M.aJ:=GX
   rw[e4] at d;refine aB<|aA<|ai m d rfl<|Hf d z ?_;have d:=gC (R:=rV Cf) (l:=x.lq) (s:=M.aU) z d;refine jy (C:=Cf) (p:=x.lq.getD i 0) (s:=M.aU i) d fun g a h d=>aH rfl<|aH rfl<|aH rfl ?_;have d:=vY (Cf:=Cf) (l:=x.lq) (s:=M.aU) (i:=i) (t:=M.aU i) z d;rw[bV] at d;apply W0 (l:=x.lc) (S:=M.aC) A d;have d:=jR (m:=m) (x:=x) M ⟨l1,l2,l3⟩ d;have no:((M.aC i).over&& !(M.aJ i).pY&& !(M.aU i).eN)=false->Q (.bool false) h:=fun e=>by
    rw[aHt (i:=i) ER e,u7] at n;exact n _<|aD4 d
   refine cG (eI<|dI (fun a1=>dI (fun J=>no<|by rw[J];simp) fun J=>dI (fun a3=>no<|by rw[a3];simp) fun a3=>bW<|aac ?_) fun a1=>no<|by rw[a1];rfl);refine X (i+1) x h ⟨l1,l2,l3⟩ ER (fun j q=>?_) d;by_cases e:j=i;subst e;rw[a1,J,a3];rfl;exact u j ER
 have⟨x,d⟩:=o6 d;have⟨k,d⟩:=gT d;refine aB<|aA<|ai m d rfl<|cE ?_;have d:=jR (m:=m) (x:=x) M k d;exact aE Cf.aE.toNat 0 x h k ER (fun j u=>ER) d
end Go.Proofs.Z
namespace Go.Proofs.Z.H
open Go.Hm Go.Mc
def C8 (H:kQ) (l:Nat):Bool:= !(H l).1.busy&&decide ((H l).1.aY≠[])
def nB (H:kQ) (n:Nat):EM:=(List.range n).filter fun l=>C8 H l
def aLg {H:kQ}:nB H (n+1)=nB H n++if C8 H n then [n] else []:=by
 unfold nB;rw[er,BN,DY,List.filter_nil]
def Yn {H:kQ}:(nB H n).length<=n:=by
 have:=rk (fun l=>C8 H l)<|List.range n;simp at this;exact this
variable {G:Bg} {h:AH}
def Z5 (G:Bg) (C:bT) (q hb:Nat) (H:kQ):HP:=sp [aG q 0 [IE hb],hJ G hb C H]
def xN (H:kQ):Nat->Nat->EM
 |0,_=>[]
 |f+1,i=>if C8 H i then i::xN H f (i+1) else xN H f (i+1)
def vk {H:kQ}:∀(f i:Nat),nB H (i+f)=nB H i++xN H f i
 |0,i=>by simp[xN]
 |f+1,i=>by
  rw[show i+(f+1)=i+1+f by omega,vk (H:=H) f<|i+1,aLg];show _=_++(if C8 H i then i::xN H f (i+1) else xN H f (i+1));split<;>simp
def aO8 {C:bT} {H:kQ} (u:C.aF<=1000):lh Pr K G 326 [] [IE q] (Z5 G C q hb H) ((nB H C.aF).map fun l:Nat=>[I l]):=by
 intro t J y L h Q d R A D;have d:=d.yO;have d:=d.oN;have⟨mb,b,o,cap,d⟩:=nS d;have x:nB H C.aF=xN H C.aF 0:=by
  have:=vk (H:=H) C.aF 0;rw[AQ] at this;rw[this];rfl
 rw[x] at d;have k:∀{h:AH} {B:HP},Hs G h (dV C.aF (fun i=>fG b (o+i*25) (H i).1)::aG q 0 [IE hb]::aG hb 0 (kB mb C b o cap)::eU G C.aF mb C (fun i=>(H i).2)::fJ G 25 244 (some ⟨b,o,none⟩) cap C.aF b o::B::L)->Hs G h (Z5 G C q hb H::B::L):=fun {h B} d=>by
  exact((Bi C H hb mb b o cap d).bZ (aG q 0 [IE hb])<|hJ G hb C H).Bc
 have loop:∀(f i:Nat) (h:AH),i+f=C.aF->Hs G h (dV C.aF (fun i=>fG b (o+i*25) (H i).1)::aG q 0 [IE hb]::aG hb 0 (kB mb C b o cap)::eU G C.aF mb C (fun i=>(H i).2)::fJ G 25 244 (some ⟨b,o,none⟩) cap C.aF b o::t ((xN H f i).map fun l:Nat=>[I l])::L)->
   Dd 326 2 [] Q [y,.slice (some ⟨b,o,none⟩) C.aF cap,I C.aF,I i] h:=by
  intro f
  induction f with
  |zero=>
   intro i h F d
   exact bW (aQ<|aaa<|A _ _<|k d)
  |succ f s=>
   intro i h F d
   have r:i<C.aF:=ER
   have d:=H3 (H:=H) (b:=b) (o:=o) r d
   have⟨wa,wc,d⟩:=eH d
   refine bW<|aQ<|aad<|bW<|dR r<|aX (b:=b) (o:=o+i*25) d ET (l:=(H i).1.enc wa wc) rfl rfl<|bX d fun p3 h d=>an (b:=p3) d fun h d=>?_
   have yU:∀{h:AH} {B:HP} {M:HL},Hs G h (B::aG b (o+i*25) ((H i).1.enc wa wc)::dJ 9 146 wa wc ((H i).1.aY.length,gK (H i).1.aY)::C1 b o C.aF H i::aG q 0 [IE hb]::aG hb 0 (kB mb C b o cap)::eU G C.aF mb C (fun i=>(H i).2)::fJ G 25 244 (some ⟨b,o,none⟩) cap C.aF b o::M)->
     Hs G h (dV C.aF (fun i=>fG b (o+i*25) (H i).1)::aG q 0 [IE hb]::aG hb 0 (kB mb C b o cap)::eU G C.aF mb C (fun i=>(H i).2)::fJ G 25 244 (some ⟨b,o,none⟩) cap C.aF b o::B::M):=fun {h B M} d=>by
    exact(Hs.aCm (i:=i) (f:=fun i=>fG b (o+i*25) (H i).1) (g:=fun i=>fG b (o+i*25) (H i).1) r (fun j _=>rfl)<|(lN (H i).1 (a:=wa) (c:=wc)<|d.bZ (aG b (o+i*25)<|(H i).1.enc wa wc)<|dJ 9 146 wa wc ((H i).1.aY.length,gK (H i).1.aY)).bZ (fG b (o+i*25) (H i).1)<|C1 b o C.aF H i).to
   refine aA<|ai p3 d rfl<|cG<|eI<|dI (fun p=>?_) fun p=>?_
   .have e:xN H (f+1) i=xN H f (i+1):=by
     show(if C8 H i then _ else _)=_;rw[aXf<|by rw[C8,p];simp]
    rw[e] at d
    exact aac<|s (i+1) h ER<|yU d.to
   .refine aA (ai p3 d rfl<|cE<|nU<|bC (fun c2=>?_) fun c2=>?_)
    .have e:xN H (f+1) i=i::xN H f (i+1):=by
      show(if C8 H i then _ else _)=_;rw[aXg<|by rw[C8,p];simp;intro e;rw[e] at c2;simp at c2]
     rw[e,kx] at d
     refine(R _ _ h _<|d.aN<|t ([I i]::(xN H f<|i+1).map fun l:Nat=>[I l])).mono fun v z O=>?_
     rcases O with⟨rfl,n⟩|⟨rfl,n⟩
     .exact cG (cF<|bW<|aac<|s (i+1) z ER<|yU n.to)
     .exact cG (eV<|D _ _<|k<|yU n.to)
    .have e:xN H (f+1) i=xN H f (i+1):=by
      show(if C8 H i then _ else _)=_;rw[aXf<|by rw[C8,p];simp;exact gg ER]
     rw[e] at d
     exact aac<|s (i+1) h ER<|yU d.to
 refine cW<|ai q d rfl<|cZ<|cF<|bW<|ai q d rfl<|aB<|aA<|ai hb d rfl<|cE ?_;exact loop C.aF 0 h ER d.to
def M3 (x:Int):EK:=[I x]
instance:Fx M3 1:=⟨fun _=>rfl,fun _=>rfl⟩
def aHr {l:EL}:eL M3 l=l.map I:=by
 induction l with
 |nil=>rfl
 |cons a l b=>rw[qV,b];rfl
def nC (l:EM):EL:=l.map fun x:Nat=>(x:Int)
abbrev hrX (p:Nat) (e:Nat->Value) (d l:Nat) (done:EM):HP:=xC fun x:EN×Nat=>sp [iI Pr 208 (iM 58) 14 e d l (.ready,none),aG p 0 [.slice x.1 (nC done).length x.2],ls M3 1 3 x.1 x.2<|nC done]
theorem cw {C:bT} {H:kQ} (g:C.aF<=1000) (f:Hs G h L) [F:dH (hJ G hb C) L H L']
  (D:∀q a c r,Hs G r (Qb 3 q a c (nC<|nB H C.aF)::hJ G hb C H::L')->Q (.func (.func 303) #[] #[IE q]) r):ID 208 [IE hb] h Q:=by
 refine cW<|bX (F.of f) fun p h f=>cW<|dY f fun q h f=>jM f fun d h f=>?_
 intro e B
 refine kY f fun l h f=>pX rfl ?_
 have f:=oI (enc:=M3) (W:=1) (e:=3) f
 have f:Hs G h (Z5 G C q hb H::hrX p e d l []::mk d ()::L'):=by
  have f:=(f.cT (iI Pr 208 (iM 58) 14 e d l (.ready,none)) (aG p 0 [.slice none 0 0])<|ls M3 1 3 none 0 []).Ry;have f:Hs G h (hrX p e d l []::_):=Hs.tG (A:=fun x:EN×Nat=>sp [iI Pr 208 (iM 58) 14 e d l (.ready,none),aG p 0 [.slice x.1 (nC []).length x.2],ls M3 1 3 x.1 x.2<|nC []]) (none,0) f;have f:=(f.bZ (aG q 0 [IE hb])<|hJ G hb C H).Bc;have f:Hs G h (Z5 G C q hb H::_):=f;exact f.to
 refine(aO8 (C:=C) (q:=q) (hb:=hb) (H:=H) g).C2 (X:=hrX p e d l) (Z:=fun _ _=>xG False) f ?_ ?_ ?_
 .intro done y h N t f;have s:done.length<=1000:=by
   have:=t.length_le;have:=Yn (H:=H) (n:=C.aF);simp at*;omega
  have⟨⟨a,c⟩,f⟩:=f.uI
  have f:=f.B9
  refine rW (qC f) B<|gD f fun h f=>ai p f rfl<|aM (c:=[I y]) rfl<|dC (W:=1) (n:=1) (c:=1) f rfl rfl rfl fun k h f=>?_
  have f:=nH (enc:=M3) (W:=1) (e:=3) (x:=(y:Int)) f
  refine jO (enc:=M3) (W:=1) (e:=3) (l:=nC done) (l2:=[(y:Int)]) (a:=a) (c:=c) (a2:=some k) (c2:=1) f (by simp[nC];omega) fun i j h f=>an (b:=p) f fun h f=>iE f fun h f=> .inl ⟨rfl,?_⟩
  have u:nC done++[(y:Int)]=nC (done++[y]):=by simp[nC]
  rw[u] at f
  exact(Hs.tG (A:=fun x:EN×Nat=>sp [iI Pr 208 (iM 58) 14 e d l (.ready,none),aG p 0 [.slice x.1 (nC<|done++[y]).length x.2],ls M3 1 3 x.1 x.2<|nC<|done++[y]]) (i,j)<|(f.cT (iI Pr 208 (iM 58) 14 e d l (.ready,none)) (aG p 0 [.slice i (nC<|done++[y]).length j])<|ls M3 1 3 i j<|nC<|done++[y]).Ry).to
 .intro v h f;have⟨⟨a,c⟩,f⟩:=(f.aN<|hrX p e d l<|nB H C.aF).uI;have f:=f.B9;refine kU f fun h f=>kW<|ai p f rfl ?_;have f:=f.aN<|ls M3 1 3 a c<|nC<|nB H C.aF;have z:ls M3 1 3 a c (nC<|nB H C.aF)=dJ 1 3 a c ((nC<|nB H C.aF).length,(nC<|nB H C.aF).map I):=by rw[ls];rw[aHr]
  rw[z] at f
  refine K8 (e:=3) (xs:=nC<|nB H C.aF) rfl f fun J h f=>mH f fun h f=>kS<|D J a c _ ?_
  exact((f.aN<|Z5 G C q hb H).yO).to
 .intro done y v h t f;have⟨hf,f⟩:=(f.aN<|xG False).X6;exact hf.elim
end Go.Proofs.Z.H
namespace Go.Proofs.Z
open Go.Hm Go.At Go.Mc Go.Ct Go.Nt
instance:Fx Do.enc 4:=⟨fun _=>rfl,fun _=>rfl⟩
abbrev dos (a:EN) (c:Nat) (l:HS):HP:=ls Do.enc 4 39 a c l
def dsP (p:Nat) (l:HS) (x:EN×Nat):HL:=[aG p 0 [.slice x.1 l.length x.2],dos x.1 x.2 l]
def R1 (p:Nat) (l:HS):HP:=xC fun x:EN×Nat=>sp<|dsP p l x
def rN (M:cN) (n:Nat):HS:=((List.range n).filter fun i:Nat=> !(M.aC i).over&& !M.aY i).map fun i:Nat=>(⟨0,i,0,0⟩:Do)
def wF (M:cN) (c n:Nat):HS:=((List.range n).filter fun w=>decide<|M.bN c w≠[]).map fun w:Nat=>(⟨1,c,w,0⟩:Do)
def Qg (M:cN) (n:Nat):HS:=(List.range n).flatMap fun c=>wF M c 4
def Av (l:EM):HS:=l.map fun l:Nat=>(⟨2,l,0,0⟩:Do)
def Fp (C:bT) (M:cN) (n:Nat):HS:=((List.range n).filter fun g:Nat=>M.mY C g).map fun g:Nat=>(⟨3,g,0,0⟩:Do)
variable {α:Type}
def G7 {f:Nat->α}:((List.range<|n+1).filter p).map f=((List.range n).filter p).map f++if p n then [f n] else []:=by
 rw[er,BN,k8,DY,List.filter_nil];split<;>rfl
def Hz {f:Nat->α}:(((List.range n).filter p).map f).length<=n:=by
 have:=rk p<|List.range n;simp at this ⊢;exact this
def aFj {M:cN}:Qg M (n+1)=Qg M n++wF M n 4:=by
 unfold Qg;rw[er,u3];simp
def Wu {M:cN}:∀{n:Nat},(Qg M n).length<=4*n
 |0=>ba _
 |n+1=>by
  rw[aFj,bj];have:=Wu (M:=M) (n:=n);have:(wF M n 4).length<=4:=Hz;omega
variable {G:Bg} {h:AH} {Cf:bT} {M:cN}
def Df {l:HS} (b:Hs G h (R1 p3 l::L)):∃a c,Hs G h (aG p3 0 [.slice a l.length c]::dos a c l::L):=by
 have⟨⟨a,c⟩,b⟩:=b.uI;exact⟨a,c,b.yO⟩
def Di {l:HS} {b L2:HL} (f:Hs G h L) [g:eR (aG p3 0 [.slice a n c]) L b] [i:eR (dos a c l) b L2] (d:n=l.length):Hs G h (R1 p3 l::L2):=by
 subst d;exact Hs.tG (A:=fun x:EN×Nat=>sp<|dsP p3 l x) (a,c)<|Hs.kC (A:=dsP p3 l (a,c))<|f.cR<|g.cR.trans<|i.cR.cons _
def aIw {x:MN} (y:x.lc.length<=4) (u:jL Cf M.dS) (t:∀p,Hs G p (R1 p3 (rN M x.lc.length)::jG G Cf m x M::L)->Dd 130 4 [] Q [IE m,t2,IE p3,t72] p):
  ∀(f i:Nat) (h:AH),i+f=x.lc.length->Hs G h (R1 p3 (rN M i)::jG G Cf m x M::L)->Dd 130 2 [] Q [IE m,t2,IE p3,.slice x.ac x.lc.length x.cc,I x.lc.length,I i,t72] h:=by
 intro f
 induction f with
 |zero=>
  intro i h s d
  obtain rfl:i=x.lc.length:=ER
  exact bW (aQ<|aaa<|t h d)
 |succ f k=>
  intro i h s d
  have j:i<x.lc.length:=ER
  have hle:(rN M i).length<=i:=Hz
  have⟨hl,d⟩:=gT<|d.aN<|jG G Cf m x M
  refine bW<|aQ<|aad<|bW<|G4 d j<|W0 (l:=x.lc) (S:=M.aC) j d ?_
  have d:=jR (m:=m) (x:=x) M hl d
  refine cG<|eI<|dI (fun a1=>aac<|k (i+1) h ER ?_) fun a1=>S2 (x:=x) u d fun h d=>cG<|eI<|dI (fun g=>bW<|aac<|k (i+1) h ER ?_) fun g=>bW ?_
  .have e:rN M (i+1)=rN M i:=by unfold rN;rw[G7,aXf<|by rw[a1];simp,hX]
   rw[e];exact d.to
  .have e:rN M (i+1)=rN M i:=by unfold rN;rw[G7,aXf<|by rw[g];simp,hX]
   rw[e];exact d.to
  .have e:rN M (i+1)=rN M i++[⟨0,i,0,0⟩]:=by unfold rN;rw[G7,aXg<|by rw[a1,g];rfl]
   have⟨a,c,d⟩:=Df<|d.aN<|R1 p3<|rN M i
   refine ai p3 d rfl<|aM (c:=(⟨0,i,0,0⟩:Do).enc) rfl<|aM (c:=(⟨0,i,0,0⟩:Do).enc) rfl<|dC (W:=4) (n:=1) (c:=1) d rfl rfl rfl fun g h d=>?_
   have d:=nH (enc:=Do.enc) (W:=4) (e:=39) (x:=⟨0,i,0,0⟩) d
   refine jO (enc:=Do.enc) (W:=4) (e:=39) (l:=rN M i) (l2:=[⟨0,i,0,0⟩]) (a:=a) (c:=c) (a2:=some g) (c2:=1) d EW fun q r h d=>an (b:=p3) d fun h d=>aac<|k (i+1) h ER ?_
   rw[e];exact(Di (p3:=p3) (a:=q) (c:=r) (l:=rN M i++[⟨0,i,0,0⟩]) d rfl).to
abbrev dlX (p3 p6 a:Nat) (i w:Nat) (e:Nat->Value) (d l:Nat) (dl:HS) (st:LoopState×Option Code) (pr:Prop):HP:=sp [xG pr,iI Pr 130 (iM 16410214) 96 e d l st,sp [aG p6 0 [I i],aG a 0 [I w]],R1 p3 dl]
def aM5 {p6:Nat} {t44:Value} {base:HS} (hC:Cf.Ok) (A:gq Cf M.bN) (O:(i:Int)<Cf.aE) (hb:base.length<=1000)
  (R:∀k z,Hs G z (R1 p3 (base++wF M i 4)::bO G Cf m M::G0 k::L)->Dd 130 14 k Q [IE m,t2,IE p3,t44,I i,t72] z):
  ∀(f w:Nat) (k:EM) (h:AH),w+f=4->Hs G h (R1 p3 (base++wF M i w)::aG p6 0 [I i]::bO G Cf m M::G0 k::L)->Dd 130 10 k Q [IE m,t2,IE p3,IE p6,t44,I i,I w,t72] h:=by
 intro f
 induction f with
 |zero=>
  intro w k h U g
  obtain rfl:w=4:=ER
  exact bW (aQ<|aaa<|R k h g.to)
 |succ f B=>
  intro w k h U g
  have hle:(wF M i w).length<=w:=Hz
  have⟨x,hl,g⟩:=cY<|g.aN<|bO G Cf m M
  refine bW<|aQ<|aad<|bW<|bX g fun j h g=>an (b:=j) g fun h g=>bD g fun V h g=>aB<|aA<|ai m g rfl<|ai p6 g rfl<|ai j g rfl ?_
  refine dj (C:=Cf) (F:=M.bN) (x:=i) (y:=w) hC (A.O7 hC) O ER g fun q h g=>jM g fun d h g=>?_
  have g:=bP (m:=m) (x:=x) M hl g
  intro e J
  refine kY g fun l h g=>pX rfl ?_
  have g:Hs G h (vc q (M.bN i w)::dlX p3 p6 j i w e d l (base++wF M i w) (.ready,none) (([]:HM)=[])::mk d ()::G0 k::bO G Cf m M::L):=by
   have g:=(g.bZ (aG p6 0 [I i])<|aG j 0 [I w]).Bc;have g:=g.cT (iI Pr 130 (iM 16410214) 96 e d l (.ready,none)) (sp [aG p6 0 [I i],aG j 0 [I w]])<|R1 p3<|base++wF M i w;have g:=Hs.Jv<|Hs.Xg (p:=([]:HM)=[]) rfl g;exact g.to
  refine(aNl (q:=q) (l:=M.bN i w)<|by have:=A.O7 hC i w;omega).C2 (X:=fun done=>dlX p3 p6 j i w e d l (base++wF M i w) (.ready,none)<|done=[]) (Z:=fun _ _=>dlX p3 p6 j i w e d l (base++wF M i w++[⟨1,i,w,0⟩]) (.done,some<|.exit 6)<|M.bN i w≠[]) g ?_ ?_ ?_
  .intro done y h N t g;have⟨r,g⟩:=iU g;have g:=g.B9;have g:=(g.aN<|sp [aG p6 0 [I i],aG j 0 [I w]]).yO;have⟨a,c,g⟩:=Df<|g.aN<|R1 p3<|base++wF M i w;refine rW (qC g) J<|gD g fun h g=>ai p3 g rfl<|ai p6 g rfl<|ai j g rfl<|aM (c:=(⟨1,i,w,0⟩:Do).enc) rfl<|aM (c:=(⟨1,i,w,0⟩:Do).enc) rfl<|dC (W:=4) (n:=1) (c:=1) g rfl rfl rfl fun u h g=>?_;have g:=nH (enc:=Do.enc) (W:=4) (e:=39) (x:=⟨1,i,w,0⟩) g;refine jO (enc:=Do.enc) (W:=4) (e:=39) (l:=base++wF M i w) (l2:=[⟨1,i,w,0⟩]) (a:=a) (c:=c) (a2:=some u) (c2:=1) g EW fun D H h g=>an (b:=p3) g fun h g=>iE g fun h g=> .inr ⟨rfl,?_⟩;have g:=Di (p3:=p3) (a:=D) (c:=H) (l:=base++wF M i w++[⟨1,i,w,0⟩]) g rfl;exact(Hs.Jv<|Hs.Xg (p:=M.bN i w≠[]) (fun e=>by rw[e] at t;have:=t.length_le;simp at this)<|((g.bZ (aG p6 0 [I i])<|aG j 0 [I w]).Bc).cT (iI Pr 130 (iM 16410214) 96 e d l (.done,some<|.exit 6)) (sp [aG p6 0 [I i],aG j 0 [I w]])<|R1 p3<|base++wF M i w++[⟨1,i,w,0⟩]).to
  .intro v h g;obtain⟨r,g⟩:=iU<|g.aN<|dlX p3 p6 j i w e d l (base++wF M i w) (.ready,none)<|M.bN i w=[];have g:=g.B9;have g:=(g.aN<|sp [aG p6 0 [I i],aG j 0 [I w]]).yO;have s:wF M i (w+1)=wF M i w:=by unfold wF;rw[G7,aXf<|by rw[r];simp,hX]
   refine kU g fun h g=>kW<|aac<|B (w+1) (d::k) h ER ?_
   rw[s];exact(Q2<|g.bZ (mk d ())<|G0 k).to
  .intro done y v h t g;obtain⟨r,g⟩:=iU<|g.aN<|dlX p3 p6 j i w e d l (base++wF M i w++[⟨1,i,w,0⟩]) (.done,some<|.exit 6)<|M.bN i w≠[];have g:=g.B9;have g:=(g.aN<|sp [aG p6 0 [I i],aG j 0 [I w]]).yO;have s:wF M i (w+1)=wF M i w++[⟨1,i,w,0⟩]:=by unfold wF;rw[G7,aXg<|c8 r]
   refine Hl g fun h g=>Kk rfl<|aac<|B (w+1) (d::k) h ER ?_
   rw[s,<-dx];exact(Q2<|g.bZ (mk d ())<|G0 k).to
def aJj {base:HS} (hC:Cf.Ok) (j:gq Cf M.bN) (hb:base.length<=100)
  (o:∀a g,Hs G g (R1 p3 (base++Qg M Cf.aE.toNat)::bO G Cf m M::G0 a::L)->Dd 130 9 a Q [IE m,t2,IE p3,t72] g):
  ∀(f i:Nat) (a:EM) (h:AH),i+f=Cf.aE.toNat->Hs G h (R1 p3 (base++Qg M i)::bO G Cf m M::G0 a::L)->Dd 130 7 a Q [IE m,t2,IE p3,I Cf.aE.toNat,I i,t72] h:=by
 have q:=hC.1
 intro f
 induction f with
 |zero=>
  intro i a h k c
  obtain rfl:i=Cf.aE.toNat:=ER
  exact bW (aQ<|aaa<|o a h c)
 |succ f p=>
  intro i a h k c
  have hle:=Wu (M:=M) (n:=i)
  refine bW<|aQ<|aad<|bW<|bX c fun d h c=>an (b:=d) c fun h c=>?_
  refine aM5 (G:=G) (L:=L) (i:=i) (p6:=d) (base:=base++Qg M i) hC j ER EW (fun a h c=>bW<|aac<|p (i+1) a h ER ?_) 4 0 a h rfl ?_
  .rwa [aFj,<-dx]
  .have e:base++Qg M i++wF M i 0=base++Qg M i:=by simp[wF]
   rw[e];exact c.to
def aIi {t3':Value} {base:HS} (hC:Cf.Ok) (hG:Gb G) (u:yT Cf M.aK (2^30)) (hb:base.length<=1000)
  (y:∀a c k,Hs G k (dos a c (base++Fp Cf M Cf.bB.toNat)::bO G Cf m M::L)->Q (.slice a (base++Fp Cf M Cf.bB.toNat).length c) k):
  ∀(f g:Nat) (i:EM) (h:AH),g+f=Cf.bB.toNat->Hs G h (R1 p3 (base++Fp Cf M g)::bO G Cf m M::G0 i::L)->Dd 130 12 i Q [IE m,IE p3,I Cf.bB,I g] h:=by
 have p:=hC.2.1
 intro f
 induction f with
 |zero=>
  intro g i h t d
  obtain rfl:g=Cf.bB.toNat:=ER
  have⟨a,c,d⟩:=Df d
  exact bW (aQ<|aaa<|ai p3 d rfl<|tm i (d.aN<|G0 i) fun h d=>y a c _ d.to)
 |succ f q=>
  intro g i h t d
  have hle:(Fp Cf M g).length<=g:=Hz
  refine bW<|aQ<|aad<|bW<|Tj (Cf:=Cf) (M:=M) hC hG ER u (d.aN<|bO G Cf m M) fun h d=>dI (fun a1=>bW ?_) fun a1=>bW<|aac<|q (g+1) i h ER ?_
  .have e:Fp Cf M (g+1)=Fp Cf M g++[⟨3,g,0,0⟩]:=by unfold Fp;rw[G7,aXg a1]
   have⟨a,c,d⟩:=Df<|d.aN<|R1 p3<|base++Fp Cf M g
   refine ai p3 d rfl<|aM (c:=(⟨3,g,0,0⟩:Do).enc) rfl<|aM (c:=(⟨3,g,0,0⟩:Do).enc) rfl<|dC (W:=4) (n:=1) (c:=1) d rfl rfl rfl fun j h d=>?_
   have d:=nH (enc:=Do.enc) (W:=4) (e:=39) (x:=⟨3,g,0,0⟩) d
   refine jO (enc:=Do.enc) (W:=4) (e:=39) (l:=base++Fp Cf M g) (l2:=[⟨3,g,0,0⟩]) (a:=a) (c:=c) (a2:=some j) (c2:=1) d EW fun r s h d=>an (b:=p3) d fun h d=>aac<|q (g+1) i h ER ?_
   rw[e,<-dx];exact(Di (p3:=p3) (a:=r) (c:=s) (l:=base++Fp Cf M g++[⟨3,g,0,0⟩]) d rfl).to
  .have e:Fp Cf M (g+1)=Fp Cf M g:=by unfold Fp;rw[G7,aXf<|by rw[a1];simp,hX]
   rw[e];exact d.to
abbrev bgX (p3:Nat) (e:Nat->Value) (d l:Nat) (base:HS) (done:EL):HP:=sp [iI Pr 130 (iM 506) 96 e d l (.ready,none),R1 p3 (base++done.map fun l:Int=>(⟨2,l,0,0⟩:Do))]
def aIf {base:HS} {g:EM} (hC:Cf.Ok) (hG:Gb G) (R:yT Cf M.aK (2^30)) (hb:base.length<=200)
  (U:∀a c k,Hs G k (dos a c (base++Av (H.nB M.aK Cf.aF)++Fp Cf M Cf.bB.toNat)::bO G Cf m M::L)->Q (.slice a (base++Av (H.nB M.aK Cf.aF)++Fp Cf M Cf.bB.toNat).length c) k)
  (f:Hs G h (R1 p3 base::bO G Cf m M::G0 g::L)):Dd 130 9 g Q [IE m,t2,IE p3,t72] h:=by
 have V:=bT.eJ hC
 have r:=hC.2.1
 have hle:=H.Yn (H:=M.aK) (n:=Cf.aF)
 have⟨x,hl,f⟩:=cY<|f.aN<|bO G Cf m M
 refine bW<|aB<|aA<|ai m f rfl<|H.cw (C:=Cf) (H:=M.aK) ER f fun q t u h f=>jM f fun d h f=>?_
 have f:=bP (m:=m) (x:=x) M hl f
 intro e O
 refine kY f fun l h f=>pX rfl ?_
 have f:Hs G h (H.Qb 3 q t u (H.nC<|H.nB M.aK Cf.aF)::bgX p3 e d l base []::mk d ()::G0 g::bO G Cf m M::L):=by
  have B:base++([]:EL).map (fun l:Int=>(⟨2,l,0,0⟩:Do))=base:=hX _;have f:=(f.bZ (iI Pr 130 (iM 506) 96 e d l (.ready,none))<|R1 p3 base).Bc;have D:sp [iI Pr 130 (iM 506) 96 e d l (.ready,none),R1 p3 base]=bgX p3 e d l base []:=by rw[bgX];rw[B]
  rw[D] at f;exact f.to
 have Y:(H.nC<|H.nB M.aK Cf.aF).length<=100:=by rw[H.nC];rw[js];omega
 refine(H.D3 (e:=3) (p:=q) (a:=t) (c:=u) (xs:=H.nC<|H.nB M.aK Cf.aF) ER).C2 (X:=bgX p3 e d l base) (Z:=fun _ _=>xG False) f ?_ ?_ ?_
 .intro done y h N s f;have J:done.length<=100:=by have:=s.length_le;simp at this;omega
  have f:=f.yO
  have⟨a,c,f⟩:=Df<|f.aN<|R1 p3 (base++done.map fun l:Int=>(⟨2,l,0,0⟩:Do))
  refine rW (qC f) O<|gD f fun h f=>ai p3 f rfl<|aM (c:=(⟨2,y,0,0⟩:Do).enc) rfl<|aM (c:=(⟨2,y,0,0⟩:Do).enc) rfl<|dC (W:=4) (n:=1) (c:=1) f rfl rfl rfl fun j h f=>?_
  have f:=nH (enc:=Do.enc) (W:=4) (e:=39) (x:=⟨2,y,0,0⟩) f
  refine jO (enc:=Do.enc) (W:=4) (e:=39) (l:=base++done.map fun l:Int=>(⟨2,l,0,0⟩:Do)) (l2:=[⟨2,y,0,0⟩]) (a:=a) (c:=c) (a2:=some j) (c2:=1) f EW fun z A h f=>an (b:=p3) f fun h f=>iE f fun h f=> .inl ⟨rfl,?_⟩
  have f:=Di (p3:=p3) (a:=z) (c:=A) (l:=base++done.map (fun l:Int=>(⟨2,l,0,0⟩:Do))++[⟨2,y,0,0⟩]) f rfl
  have i:base++done.map (fun l:Int=>(⟨2,l,0,0⟩:Do))++[⟨2,y,0,0⟩]=base++(done++[y]).map fun l:Int=>(⟨2,l,0,0⟩:Do):=EV
  rw[i] at f
  exact((f.bZ (iI Pr 130 (iM 506) 96 e d l (.ready,none))<|R1 p3 (base++(done++[y]).map fun l:Int=>(⟨2,l,0,0⟩:Do))).Bc).to
 .intro v h f;have f:=(f.aN<|bgX p3 e d l base<|H.nC<|H.nB M.aK Cf.aF).yO;have i:base++(H.nC<|H.nB M.aK Cf.aF).map (fun l:Int=>(⟨2,l,0,0⟩:Do))=base++Av (H.nB M.aK Cf.aF):=by unfold H.nC Av;rw[BD];rfl
  rw[i] at f
  refine kU f fun h f=>kW ?_
  have f:=Q2<|f.bZ (mk d ())<|G0 g
  have⟨x,hl,f⟩:=cY<|f.aN<|bO G Cf m M
  refine aB<|aA<|aA<|ai m f (v:=I Cf.bB) rfl ?_
  have F:base++Av (H.nB M.aK Cf.aF)++Fp Cf M 0=base++Av (H.nB M.aK Cf.aF):=hX _
  exact aIi (t3':=t2) (base:=base++Av (H.nB M.aK Cf.aF)) hC hG R (by rw[Av];simp;omega) (L:=L) U Cf.bB.toNat 0 (d::g) h ER (by rw[F];exact(bP (m:=m) (x:=x) M hl f).to)
 .intro done y v h s f;have⟨hf,f⟩:=(f.aN<|xG False).X6;exact hf.elim
def w9 (hC:Cf.Ok) (hG:Gb G) (q:jL Cf M.dS) (j:gq Cf M.bN) (k:yT Cf M.aK (2^30)) (d:Hs G h L) [r:dH (bO G Cf m) L M L']
  (p:∀a c g,Hs G g (dos a c (M.ready Cf)::bO G Cf m M::L')->Q (.slice a (M.ready Cf).length c) g):ID 130 [IE m] h Q:=by
 have t:=hC.1
 refine cW<|cZ<|cF<|bW<|bX (r.of d) fun p3 h d=>?_
 obtain⟨x,d⟩:=o6<|d.aN<|bO G Cf m M
 have⟨hl,d⟩:=gT d
 have f:=hl.1
 refine aB<|aA<|ai m d rfl<|cE ?_
 have d:=jR (m:=m) (x:=x) M hl d
 have d:=Di (p3:=p3) (a:=none) (c:=0) (l:=[]) (oI (enc:=Do.enc) (W:=4) (e:=39) d) rfl
 refine aIw (x:=x) (L:=L') ER q (fun h d=>?_) x.lc.length 0 h ER<|show Hs G h (R1 p3 []::jG G Cf m x M::L') from d.to
 have⟨hl,d⟩:=gT<|d.aN<|jG G Cf m x M
 refine bW<|aB<|aA<|ai m d rfl<|cE ?_
 have d:=bP (m:=m) (x:=x) M hl d
 have d:=aKc d
 rw[f] at d ⊢
 have hle:(rN M Cf.aE.toNat).length<=Cf.aE.toNat:=Hz
 have i:=Wu (M:=M) (n:=Cf.aE.toNat)
 refine aJj (base:=rN M Cf.aE.toNat) (L:=L') hC j ER (fun s h d=>?_) Cf.aE.toNat 0 [] h ER (by rw[show rN M Cf.aE.toNat++Qg M 0=rN M Cf.aE.toNat from hX _];exact d.to)
 exact aIf (base:=rN M Cf.aE.toNat++Qg M Cf.aE.toNat) (L:=L') hC hG k EW p d
end Go.Proofs.Z
namespace Go.Proofs.Z
open Go.Hm Go.At Go.Mc Go.Ct Go.Nt Go.Is
variable {Cf:bT} {S:Nat->aT}
section
def aMu {M:cN} {d:Do}:(M.yC Cf [d] 0).2.2=(M.sJ Cf d).2:=by
 rw[cN.yC];split;rfl;rename_i h;rw[og.1 h];rfl
variable {G:Bg} {h:AH} {M:cN}
def j1 {cl:Nat} {l:HS} {r:cN×Nat} (hC:Cf.Ok) (hG:Gb G) (B:l.length<=1000) (y:∀s,Hs G s (bO G Cf m r.1::L)->Q (I r.2) s):
  ∀(f i N n:Nat) (M:cN) (h:AH),i+f=l.length->n<=2*i->Mc.Sl Cf S N M->N+4*f<=2^27->(l.drop i).foldl (oZ Cf) (M,n)=r->Hs G h (dos al cl l::bO G Cf m M::L)->
   Dd 67 2 [] Q [.func (.func 8) #[IE m] #[],I n,.slice al l.length cl,I l.length,I i] h:=by
 intro f
 induction f with
 |zero=>
  intro i N n M h x z hA u k g
  rw[eg ER] at k
  subst k
  exact bW (aQ<|aaa<|y _ g.tail)
 |succ f A=>
  intro i N n M h x z hA u k g
  have⟨d,hx,hd⟩:=lR (l:=l) (i:=i) ER
  rw[hd,CH] at k
  have t:=u5 (d:=d) hC hA (n:=n)
  have p:=hA.sJ (d:=d) hC
  have next:∀(h:AH),Hs G h (dos al cl l::bO G Cf m (oZ Cf (M,n) d).1::L)->Dd 67 2 [] Q [.func (.func 8) #[IE m] #[],I (oZ Cf (M,n) d).2,.slice al l.length cl,I l.length,I<|(i:Int)+1] h:=fun h g=>by
   have q:=t.n1;have a3:wN d<=2:=by rw[wN];split<;>omega
   exact A (i+1) (N+4) (oZ Cf (M,n) d).2 (oZ Cf (M,n) d).1 h ER ER t.all ER k g
  refine bW<|aQ<|aad<|bW<|vS (l:=l) (a:=al) (c:=cl) (enc:=Do.enc) (e:=39) g ET ER GC<|bX g fun p3 h g=>an (b:=p3) g fun h g=>?_
  refine am p3 g (l:=d.enc) rfl rfl<|aM (c:=d.enc) rfl<|dC (W:=4) (n:=1) (c:=1) g rfl rfl rfl fun a h g=>?_
  have g:Hs G h (dJ 4 39 (some a) 1 (1,d.enc)::bO G Cf m M::sp [aG p3 0 d.enc,dos al cl l]::L):=g.to
  refine sR rfl<|ly (d:=d) (M:=M) hC hG hA.inv ER g fun h g=>aH rfl<|aH rfl ?_
  have g:=(g.aN<|sp [aG p3 0 d.enc,dos al cl l]).yO
  rw[aMu]
  refine bK<|bC (fun j=>?_) fun j=>?_
  .have e:oZ Cf (M,n) d=((M.sJ Cf d).1,n):=by unfold oZ;dsimp only;rw[aXg j]
   rw[e] at next
   exact bW<|aac<|next h g.to
  refine bW<|aac<|aA<|ai p3 g (v:=I d.kR) rfl<|bK<|bC (fun c2=>?_) fun c2=>?_
  .have e:oZ Cf (M,n) d=((M.sJ Cf d).1,n+1):=by unfold oZ;dsimp only;rw[aXf j,aXg<|.inl c2]
   rw[e] at next
   exact aac<|next h g.tail
  refine aA<|ai p3 g (v:=I d.b) rfl<|bK<|bC (fun c3=>?_) fun c3=>bW ?_
  .have e:oZ Cf (M,n) d=((M.sJ Cf d).1,n+1):=by unfold oZ;dsimp only;rw[aXf j,aXg<|.inr c3]
   rw[e] at next
   exact bW<|aac<|next h g.tail
  refine aA<|ai p3 g (v:=I d.a) rfl<|aM (c:=(⟨0,d.a,0,0⟩:Do).enc) rfl<|aM (c:=(⟨0,d.a,0,0⟩:Do).enc) rfl<|dC (W:=4) (n:=1) (c:=1) g rfl rfl rfl fun q h g=>?_
  have g:Hs G h (dJ 4 39 (some q) 1 (1,(⟨0,d.a,0,0⟩:Do).enc)::bO G Cf m (M.sJ Cf d).1::dos al cl l::L):=g.to
  refine sR rfl<|ly (d:=⟨0,d.a,0,0⟩) (M:=(M.sJ Cf d).1) hC hG p.inv ER g fun h g=>aH rfl<|aH rfl ?_
  rw[aMu]
  refine bM<|bC (fun c4=>bW ?_) fun c4=>bW ?_
  .have e:oZ Cf (M,n) d=(((M.sJ Cf d).1.sJ Cf ⟨0,d.a,0,0⟩).1,n+2):=by unfold oZ;dsimp only;rw[aXf j,aab,aXg c4]
   rw[e] at next
   exact aac<|aac<|next h g.to
  .have e:oZ Cf (M,n) d=(((M.sJ Cf d).1.sJ Cf ⟨0,d.a,0,0⟩).1,n+1):=by unfold oZ;dsimp only;rw[aXf j,aab,aXf c4]
   rw[e] at next
   exact aac<|next h g.to
def aB2 (hC:Cf.Ok) (hG:Gb G) (hA:Mc.Sl Cf S N M) (j:N<=2^26) (b:Hs G h L) [i:dH (bO G Cf m) L M L'] (f:∀d,Hs G d (bO G Cf m (M.round Cf).1::L')->Q (I (M.round Cf).2) d):ID 67 [IE m] h Q:=by
 have⟨r1,r2,r3⟩:=Ue (C:=Cf) (M:=M);have k:=hC.1;have g:=bT.eJ hC;refine cW<|cZ<|cF<|bW<|w9 (Cf:=Cf) (M:=M) hC hG hA.inv.dS hA.inv.bN.len (hA.inv.aK.h ER) (i.of b) fun a c h b=>cE ?_;exact j1 (S:=S) (l:=M.ready Cf) (r:=M.round Cf) hC hG ER f (M.ready Cf).length 0 N 0 M h ER (ba _) hA ER rfl b
end
section
variable {G:Bg} {h:AH} {M:cN}
def Zw {most:Nat} (hC:Cf.Ok) (hG:Gb G) (hA:Mc.Sl Cf S N M) (V:N+400*most<=2^26) (a:Hs G h L) [mm:dH (bO G Cf m) L M L']
  (u:∀s,Hs G s (bO G Cf m (M.Fw Cf most 0).2::L')->Q (.tuple ⟨[I (M.Fw Cf most 0).1,.bool<|(M.Fw Cf most 0).2.over Cf]⟩) s):ID 9 [IE m,I most] h Q:=by
 obtain⟨R,H⟩:∃R,M.Fw Cf most 0=R:=⟨_,rfl⟩
 rw[H] at u
 refine cW<|dY (mm.of a) fun p h a=>dY a fun x h a=>ai p a rfl<|cZ<|cF<|bW<|bX a fun p1 h a=>an (b:=p1) a fun h a=>ai p a rfl<|ai x a rfl<|cW<|dY a fun r h a=>dY a fun t h a=>jM a fun d h a=>?_
 intro e Y
 refine kY a fun l h a=>pX rfl ?_
 have loop:∀(z:Value->AH->Prop),(∀(st:LoopState) (pd:Option Code) (k:Nat) (y:Nat) (q:cN) s,(st= .ready/\pd=none\/st= .done/\pd=some (.exit 0))->Mc.Sl Cf S y q->y<=2^26->(k,q)=R->
    Hs G s (bO G Cf m q::aG r 0 [IE m]::aG t 0 [I most]::aG p 0 [IE m]::aG x 0 [I most]::aG p1 0 [I k]::iI Pr 9 (iM 122) 28 e d l (st,pd)::mk d ()::L')->z (.tuple ⟨[]⟩) s)->
   ∀(f no N:Nat) (g:cN) (h:AH),f+no=most->Mc.Sl Cf S N g->N+400*f<=2^26->g.Fw Cf f no=R->
   Hs G h (bO G Cf m g::aG r 0 [IE m]::aG t 0 [I most]::aG p 0 [IE m]::aG x 0 [I most]::aG p1 0 [I no]::iI Pr 9 (iM 122) 28 e d l (.ready,none)::mk d ()::L')->
   Dd 66 2 [] z [.func (.yield l) #[] #[],IE r,IE t,I<|(no:Int)+1] h:=by
  intro z B f
  induction f with
  |zero=>
   intro no N g h O hA U c a
   exact bW (ai t a rfl<|xY<|aaa<|B _ _ no N g h (.inl ⟨rfl,rfl⟩) hA ER c a)
  |succ f J=>
   intro no N g h O hA U c a
   unfold cN.Fw at c
   refine bW<|ai t a rfl<|xY<|aad<|ai r a rfl<|Jp (Cf:=Cf) (M:=g) hC hG hA.inv.bN.len (hA.inv.aK.h ER) a fun h a=>cG<|eI<|dI (fun A=>?_) fun A=>bW ?_
   .rw[A,aXg rfl] at c;exact B _ _ no N g h (.inl ⟨rfl,rfl⟩) hA ER c a
   rw[A,aXf zs] at c
   have i:=(O8 hC hA).all
   have F:((no:Int)+1)=((no+1:Nat):Int):=ER
   refine ai r a rfl<|aB2 (S:=S) (M:=g) hC hG hA ER a fun h a=>?_
   refine rW (qC a) Y<|gD a fun h a=>an (b:=p1) a fun h a=>bM<|bC (fun hz=>?_) fun hz=>?_
   .refine ai p a rfl (Jp (Cf:=Cf) (M:=(g.round Cf).1) hC hG i.inv.bN.len (i.inv.aK.h ER) a fun h a=>cG<|eI<|dI (fun n=>?_) fun n=>?_)
    .rw[n,aXf EV] at c;refine iE a fun h a=>cG<|cF<|bW<|aac ?_;rw[F] at a ⊢;exact J (no+1) (N+400) _ h ER i ER c a.to
    .rw[aXg ⟨ER,n⟩] at c;refine ai x a rfl<|an (b:=p1) a fun h a=>iE a fun h a=>cG<|eV<|B _ _ (no+f+1) (N+400) (g.round Cf).1 h (.inr ⟨rfl,rfl⟩) i ER c ?_;rw[show((no+f+1:Nat):Int)=most by omega];exact a.to
   .rw[aab] at c;refine iE a fun h a=>cG<|cF<|bW<|aac ?_;rw[F] at a ⊢;exact J (no+1) (N+400) _ h ER i ER c a.to
 refine cW<|ai r a rfl<|cZ<|cF<|bW ?_
 refine loop _ (fun st pd k y q h D j X c a=>?_) most 0 N M h ER hA V H a.to
 rw[<-c] at u
 rcases D with⟨rfl,rfl⟩|⟨rfl,rfl⟩
 .exact kU a fun h a=>kW<|bD a fun rr h a=>ai p1 a rfl<|ai p a rfl<|Jp (Cf:=Cf) (M:=q) hC hG j.inv.bN.len (j.inv.aK.h ER) a fun h a=>dB (ai p1 a rfl jN)<|mH a fun h a=>kS<|u _ a.to
 .exact Hl a fun h a=>Kk rfl<|bD a fun rr h a=>ai p1 a rfl<|ai p a rfl<|Jp (Cf:=Cf) (M:=q) hC hG j.inv.bN.len (j.inv.aK.h ER) a fun h a=>dB (ai p1 a rfl jN)<|mH a fun h a=>kS<|u _ a.to
end
section
open Go.Qt (Xh vF Fa)
def Fy (ps:List (HO)):Nat:=(ps.map List.length).sum
def Zj:∀{ps:List (HO)},vF (fun i=>(ps.getD i []).length) ps.length=Fy ps:=by
 intro ps;have:∀(n:Nat) (l:List (HO)),l.length=n->vF (fun i=>(l.getD i []).length) n=Fy l:=by
  intro n;induction n with
  |zero=>intro l b;rw[gg b];rfl
  |succ n d=>
   intro l b;obtain⟨a,x,rfl⟩:∃a x,l=a++[x]:=⟨_,_,(List.dropLast_concat_getLast fun e=>by rw[e] at b;cases b).symm⟩;have c:a.length=n:=HF
   show vF _ n+_=_;rw[Fa (g:=fun i=>(a.getD i []).length) fun i f=>by
    rw[ay,ay,p4 ER]]
   rw[d a c];unfold Fy;show _+((a++[x]).getD n []).length=_;rw[k8,BP,ay,l9 ER,c,BK];simp
 exact this _ ps rfl
variable {G:Bg} {h:AH} {Cf:bT} {M:cN} {S:Nat->aT} {P:Nat->HO} {A0:AM}
def zf {p:HO} {a:Nat} {x:fM} (h:p[a]?=some x):hQ p (a:Int)=x:=by
 rw[hQ,aP,ay,h];rfl
def dp {wv:Value} {ps:List (HO)} {ws:EL} (hn:ps.length<=9223372036854775807) (u:∀p∈ps,p.length<=9223372036854775807) (ho:A.My G pv wv ov vv ps ws os vs) (c:Hs G h L)
  (k1:(∀p∈ps,Xh p)->∀g,Hs G g L->Q (.bool true) g) (k2:¬(∀p∈ps,Xh p)->∀g,Hs G g L->Q (.bool false) g):ID 5 [.agg ⟨Dw Cf pv wv ov vv⟩] h Q:=by
 obtain⟨⟨vi,hv,y,t⟩,_,_,_⟩:=ho
 have lp:∀{k:Value->Prop},k (I ps.length)->bQ (pG pv) k:=fun hk=>A.oM y (by simpa [hv] using hk)
 refine cW<|dY c fun p2 h c=>aA<|ai p2 c (v:=pv) rfl<|lp ?_
 have c:=c.tail
 have inner:∀(i:Nat) (v:Value) (p:HO),p∈ps->p.length<=9223372036854775807->A.R7 G v p->(∀h,Hs G h L->Xh p->Dd 5 5 [] Q [.bool true,pv,I ps.length,I i] h)->∀(f a:Nat) (h:AH),a+f=p.length->(∀b:Int,0<=b->b<a->((hQ p b).op=9->b<(hQ p b).a)/\((hQ p b).op=10->b<(hQ p b).b))->Hs G h L->
   Dd 5 3 [] Q [.bool true,pv,I ps.length,I i,v,I p.length,I a] h:=by
  intro i v p J u d kk f
  induction f with
  |zero=>
   intro a h ha n c
   exact bW (aQ<|aaa<|kk h c fun b B h1=>n b B ER)
  |succ f R=>
   intro a h ha n c
   have⟨x,hx,_⟩:=lR (l:=p) (i:=a) ER
   have s:=zf hx
   have k3:¬((x.op=9->(a:Int)<x.a)/\(x.op=10->(a:Int)<x.b))->∀g,Hs G g L->Q (.bool false) g:=fun hn=>k2 fun h=>hn (by have:=h p J a ER ER;rwa [s] at this)
   have next:((x.op=9->(a:Int)<x.a)/\(x.op=10->(a:Int)<x.b))->∀h,Hs G h L->Dd 5 3 [] Q [.bool true,pv,I ps.length,I i,v,I p.length,I<|(a:Int)+1] h:=fun D h c=>by
    refine R (a+1) h ER (fun b B h1=>?_) c;by_cases e:b=(a:Int);rwa [e,s];exact n b B ER
   refine bW<|aQ<|aad<|bW<|aJo (A.Ih d c) ET (x:=x.enc) (by rw[A.Sd,gi,hx];rfl)<|bX c fun p3 h c=>an (b:=p3) c fun h c=>?_
   have X:∀h,Hs G h (aG p3 0 x.enc::L)->((x.op=9->(a:Int)<x.a))->bQ (iZ 0<|IE p3) fun v8=>bQ (sA h v8) fun v9=>bQ (vX .eql v9<|I 10) fun v10=>Br v10 (bQ (iZ 2<|IE p3) fun v11=>bQ (sA h v11) fun v12=>bQ (vX .leq v12<|I a) fun U=>Br U (Dd 5 6 [] Q [] h)<|Dd 5 7 [] Q [.bool true,pv,I ps.length,I i,v,I p.length,I a] h) (bQ (vX .add (I a)<|I 1) fun V=>Dd 5 3 [] Q [.bool true,pv,I ps.length,I i,v,I p.length,V] h):=fun h c D=>by
    refine aA<|ai p3 c (v:=I x.op) rfl<|bM<|bC (fun r=>?_) fun r=>aac<|next ⟨D,fun e=>absurd e r⟩ _ c.tail;refine aA<|ai p3 c (v:=I x.b) rfl<|xY<|bC (fun hle=>bW<|k3 (fun h=>ER) _ c.tail) fun F=>bW<|aac<|next ⟨D,fun _=>ER⟩ _ c.tail
   refine aA<|ai p3 c (v:=I x.op) rfl<|bM<|bC (fun Y=>?_) fun Y=>X _ c fun e=>absurd e Y
   exact aA<|ai p3 c (v:=I x.a) rfl<|xY<|bC (fun hle=>k3 (fun h=>ER) _ c.tail) fun F=>X _ c fun _=>ER
 have outer:∀(f i:Nat) (h:AH),i+f=ps.length->(∀j,j<i->∀p,ps[j]?=some p->Xh p)->Hs G h L->Dd 5 1 [] Q [.bool true,pv,I ps.length,I i] h:=by
  intro f;induction f with
  |zero=>
   intro i h hi n c;refine bW<|aQ<|aaa<|k1 (fun p d=>?_) h c;have⟨j,H,hjp⟩:=AP d;exact n j ER p (by rw[aL H,hjp])
  |succ f R=>
   intro i h hi n c;have⟨p,d,_⟩:=lR (l:=ps) (i:=i) ER;have⟨v,hvi,_⟩:=lR (l:=vi) (i:=i) ER;refine bW<|aQ<|aad<|bW<|tH (zV (e:=3) EV y c) (x:=[v]) GV rfl<|A.oM (t i v p hvi d) ?_;rw[A.xV];refine inner i v p (fm d) (u p<|fm d) (t i v p hvi d) (fun h c z=>bW<|aac ?_) p.length 0 h ER (fun b B h1=>ER) c;refine R (i+1) h ER (fun j H q O=>?_) c;by_cases e:j=i;rw[e,d] at O;cases O;exact z;exact n j ER q O
 exact(outer ps.length 0 h ER (fun j H=>ER) c)
def aCw {q:Value} {ps:List (HO)} {ws:EL} (J:ps.length<=1000) (t:∀p∈ps,p.length<=1000) (u:A.My G pv q ov vv ps ws os vs) (a:Hs G h L)
  (j:∀n,Hs G n L->Q (I<|1000*((2+Fy ps:Nat):Int)) n):ID 10 [.agg ⟨Dw Cf pv q ov vv⟩] h Q:=by
 obtain⟨⟨F,B,c,k⟩,_,_,_⟩:=u
 have up:∀i,Fy (ps.take i)<=1000*i:=fun i=>by
  induction i with
  |zero=>exact AK _
  |succ i g=>
   by_cases d:i<ps.length;rw[x0,aL d];rw[Fy] at g ⊢;rw[k8,BP];have:=t ps[i] (sz d);simp only[Option.toList_some,kx,CO,DV,List.sum_nil];omega;rw[e8 ER] at g ⊢;omega
 refine cW<|dY a fun D h a=>aA<|ai D a (v:=pv) rfl<|(fun j=>A.oM c<|by simpa [B] using j) ?_
 have a:=a.tail
 have outer:∀(f i:Nat) (h:AH),i+f=ps.length->Hs G h L->Dd 10 1 [] Q [I ((2+Fy (ps.take i):Nat):Int),pv,I ps.length,I i] h:=by
  intro f;induction f with
  |zero=>
   intro i h d a;have y:=up i;rw[e8 ER] at y ⊢;exact bW (aQ<|aaa<|D8 ER<|j h a)
  |succ f g=>
   intro i h d a;have⟨p,hp,_⟩:=lR (l:=ps) (i:=i) ER;have⟨v,hvi,_⟩:=lR (l:=F) (i:=i) ER;have z:=up<|i+1;have H:Fy (ps.take<|i+1)=Fy (ps.take i)+p.length:=by
    rw[x0,hp];unfold Fy;rw[k8,BP];simp
   refine bW<|aQ<|aad<|bW<|tH (zV (e:=3) EV c a) (x:=[v]) GV rfl<|A.oM (k i v p hvi hp) ?_;rw[A.xV];have r:((i:Int)+1)=((i+1:Nat):Int):=ER
   have s:((2+Fy (ps.take i):Nat):Int)+p.length=((2+Fy (ps.take<|i+1):Nat):Int):=ER
   refine aac<|aac ?_;rw[r,s];exact g (i+1) h ER a
 exact outer ps.length 0 h ER a
end
abbrev cA:bT:=⟨1,1,1,1,2,1,1⟩
abbrev zA:EK:=[I 0,I 0,I 0,I 0]
abbrev iA:HO:=[⟨1,1,5,0⟩,⟨4,1,0,0⟩,⟨3,2,0,0⟩]
abbrev mA:cN:=MC.lK ⟨cA,[iA],[1],[1],[0,0,0,0]⟩
def MA:cN:=(mA.Fw cA 100 0).2
def aMp:(mA.Fw cA 100 0).2=MA:=rfl
def um:_root_.Go.Proofs.Z.fO=Go.Hm.fO:=EU
def uk:_root_.Go.Proofs.Z.tF=Go.Is.tF:=EU
def tj:_root_.Go.Proofs.Z.Wh=Go.Ct.mL:=EU
def aTj:MA.over cA=true:=EU
def aTd:MA.jW=[⟨0,0,1,1,0,5,0⟩,⟨0,1,4,1,0,5,0⟩,⟨0,2,3,1,0,5,0⟩]:=EU
def aSg:(MA.aC 0).core=[I 0,I 5,I 5,I 0,I 3,I 1,.bool true]:=EU
def aVl:C.mW t cA (0:Nat) (MA.aJ 0)=IE t::(Qy++[I 0,I 0,.bool false,.bool false,I 0,I 0,I 0,I 0,I 0,.bool false]):=EU
def aUi:(MA.aJ 0).S 0=[(0,⟨4,1,(5,0)⟩)]:=EU
def aUp:Km cA (MA.aU 0) a c=[.bool false,I 0,I 0,.bool false,I 1,I 1,.slice a 1 c]:=EU
def aOv:(MA.aU 0).cC=[(0,1)]:=EU
def aVa:(List.range<|mI cA.aF cA.bF.toNat 0).flatMap (V3 cA.bF.toNat 0 fun i=>(MA.aK i).2)=zA:=EU
def aRi:MA.dS.eB=[⟨1,false⟩]:=EU
def aL6:MA.bN 0 0=[]/\MA.bN 0 1=[]/\MA.bN 0 2=[]/\MA.bN 0 3=[]:=⟨EU,EU,EU,EU⟩
attribute [local irreducible] MA
def aOc {l:List (Nat×Nat×Nat)} (i:Nat) (a:i<12):((0,0,0)::(1,0,0)::(2,0,0)::(3,0,0)::(4,0,0)::(5,0,0)::(6,0,0)::(7,0,0)::(8,0,0)::(9,0,0)::(10,0,0)::(11,0,0)::l).getD i (0,0,0)=(i,0,0):=by
 have:i=0\/i=1\/i=2\/i=3\/i=4\/i=5\/i=6\/i=7\/i=8\/i=9\/i=10\/i=11:=ER
 rcases this with rfl|rfl|rfl|rfl|rfl|rfl|rfl|rfl|rfl|rfl|rfl|rfl<;>rfl
variable {G:Bg} {h:AH}
def Np {p:Nat} (d:Hs G h L) [k:dH (pQ cA p) L [] L']:∃b:Bool,∃v,Std Pr h (p,0,0) [I 2,v]/\∀σ,Rcs σ (lnV b) [I 2,v]:=by
 obtain⟨⟨a,c⟩,d⟩:=(k.of d).uI;have d:Hs G h (aG p 0 [I 2,.slice a 0 c]::dJ 9 146 a c (0,[])::L'):=d.yO;refine(Yw (W:=9) (e:=146) (a:=a) (cap:=c) (cs:=[]) d).elim (fun⟨f,i⟩=>?_) fun⟨g,f⟩=>?_;subst f i;exact⟨true,.slice none 0 0,vG (b:=p) (o:=0) (c:=[I 2,.slice none 0 0]) d Nat.two_pos,fun σ=>⟨rfl,rfl,trivial⟩⟩;subst f;exact⟨false,.slice (some g) 0 c,vG (b:=p) (o:=0) (c:=[I 2,.slice (some g) 0 c]) d Nat.two_pos,fun σ=>⟨rfl,⟨_,_,rfl⟩,trivial⟩⟩
theorem aT2 {a1 a2 a3 a4 a5:Addr} (hG:Gb G) (hg:Ob G 1 Go.Is.tF) (f:Hs G h (bO G cA m MA::dJ 1 34 (some a1) 1 (1,[.slice (some a5) 3 3])::dJ 1 3 (some a2) 1 (1,[I 1])::dJ 1 3 (some a3) 1 (1,[I 1])::dJ 1 3 (some a4) 4 (4,zA)::dJ 4 69 (some a5) 3 (3,prA)::L)):
  ∃a b c d σ E Z,Js Pr 12 σ (LA a b c d) E Z h/\σ 12=(m,0,0)/\Rcs σ cH (Dw cA (.slice (some a1) 1 1) (.slice (some a2) 1 1) (.slice (some a3) 1 1)<|.slice (some a4) 4 4):=by
 obtain⟨⟨lc,lk,lq,ac,ak,aq,al,cc,ck,cq,cl,D,F,fb⟩,⟨h1,h2,h3⟩,f⟩:=cY f
 obtain⟨x,rfl⟩:=BL.1<|show lc.length=1 from h1
 obtain⟨z,rfl⟩:=BL.1<|show lk.length=1 from h2
 obtain⟨y,rfl⟩:=BL.1<|show lq.length=1 from h3
 have f:Hs G h (oT 0 x (MA.aC 0)::_):=gC (R:=wO) (l:=[x]) (i:=0) ED f
 obtain⟨⟨ap,cp⟩,f⟩:=f.uI
 have f:Hs G h (aG x 0 (oF 0 (MA.aC 0) ap cp)::Ya ap cp (MA.aC 0).prog::_):=f.yO
 have f:Hs G h (C.jP G z cA (0:Nat) (MA.aJ 0)::_):=gC (R:=rX G cA) (l:=[z]) (i:=0) ED f
 obtain⟨t,f⟩:=C.mM f
 obtain⟨s,u,cs,f⟩:=C.Dg<|f.aN<|C.iV G t cA.ways.toNat cA.bL.toNat (MA.aJ 0).S
 have f:Hs G h (C.dL s u ((MA.aJ 0).S 0)::_):=(f.aN<|dV cA.bL.toNat fun i=>C.dL s (u+i*1)<|(MA.aJ 0).S i).kE 0 ET
 rw[aUi] at f
 obtain⟨⟨O,U⟩,f⟩:=f.uI
 have f:Hs G h (aG s u [.slice O 1 U]::dJ 5 215 O U (1,[I 0,I 4,I 1,I 5,I 0])::_):=f.yO
 have f:=Hs.kZ (W:=1) (n:=1) (f.bZ (aG s u [.slice O 1 U])<|fJ G 1 212 (some ⟨s,u,none⟩) cs cA.bL.toNat s u) rfl rfl
 have f:Hs G h (mV y cA (MA.aU 0)::_):=gC (R:=rV cA) (l:=[y]) (i:=0) ED f
 obtain⟨⟨fa,fc⟩,f⟩:=f.uI
 rw[aUp,aOv] at f
 have f:Hs G h (aG y 0 [.bool false,I 0,I 0,.bool false,I 1,I 1,.slice fa 1 fc]::dJ 2 226 fa fc (1,[I 0,I 1])::_):=f.yO
 obtain⟨J,hbb,hbo,hcp,f⟩:=H.nS<|f.aN<|H.hJ G D cA MA.aK
 obtain⟨k,q,bc,f⟩:=sF<|f.aN<|eU G cA.aF J cA fun i=>(MA.aK i).2
 have f:Hs G h (hU cA.aF cA.bF.toNat k q 0 (fun i=>(MA.aK i).2)::_):=(f.aN<|dV cA.bF.toNat fun i=>hU cA.aF cA.bF.toNat k (q+i*3) i fun i=>(MA.aK i).2).kE 0 ET
 obtain⟨r,w,B,j,f⟩:=xD f
 rw[aVa] at f
 have f:Hs G h (aG k q [I r,I w,.slice B 2 j]::dJ 2 123 B j (2,zA)::_):=f
 have f:=Hs.kZ (W:=3) (n:=1) (f.bZ (aG k q [I r,I w,.slice B 2 j])<|fJ G 3 205 (some ⟨k,q,none⟩) bc cA.bF.toNat k q) rfl rfl
 obtain⟨A,bm,f⟩:=lG<|f.aN<|iD cA F MA.dS
 rw[aRi] at f
 obtain⟨⟨ta,tc⟩,f⟩:=(f.aN<|jS A [⟨1,false⟩]).uI
 have f:Hs G h (aG A 0 [.slice ta 1 tc]::dJ 2 137 ta tc (1,[I 1,.bool false])::_):=f.yO
 obtain⟨pl,f⟩:=A2<|f.aN<|pU cA fb MA.bN
 have f:Hs G h ([pQ cA (pl 0)<|MA.bN 0 0,pQ cA (pl 1)<|MA.bN 0 1,pQ cA (pl 2)<|MA.bN 0 2,pQ cA (pl 3)<|MA.bN 0 3]++_):=(f.aN<|dV (4*cA.aE.toNat)<|tE cA pl MA.bN).dT
 rw[aL6.1,aL6.2.1,aL6.2.2.1,aL6.2.2.2,aTd] at f
 simp only[hK,hZ] at f
 obtain⟨v0,w0,s19,r19⟩:=Np (p:=pl 0) f
 obtain⟨v1,w1,s20,r20⟩:=Np (p:=pl 1) f
 obtain⟨v2,w2,s21,r21⟩:=Np (p:=pl 2) f
 obtain⟨v3,w3,s22,r22⟩:=Np (p:=pl 3) f
 obtain⟨b1,o1,p1,rfl,rfl,s1⟩:=Mf (P:=Pr) (enc:=pE) (W:=1) (e:=114) (a:=ac) (cap:=cc) (l:=[x]) f (EA _) EU
 obtain⟨b2,o2,p2,rfl,rfl,s2⟩:=Mf (P:=Pr) (enc:=pE) (W:=1) (e:=117) (a:=ak) (cap:=ck) (l:=[z]) f (EA _) EU
 obtain⟨b3,o3,p3,rfl,rfl,s3⟩:=Mf (P:=Pr) (enc:=pE) (W:=1) (e:=132) (a:=aq) (cap:=cq) (l:=[y]) f (EA _) EU
 obtain⟨b7,o7,p7,e7,rfl,s7⟩:=vI (P:=Pr) (W:=1) (e:=212) (a:=some ⟨s,u,none⟩) (cap:=cs) (n:=1) f ET EU
 cases e7
 obtain⟨b8,o8,p8,rfl,rfl,s8⟩:=vI (P:=Pr) (W:=5) (e:=215) (a:=O) (cap:=U) (n:=1) f ET EU
 obtain⟨V,ξ,p10,rfl,rfl,s10⟩:=vI (P:=Pr) (W:=2) (e:=226) (a:=fa) (cap:=fc) (n:=1) f ET EU
 obtain⟨b13,o13,p13,η,rfl,s13⟩:=vI (P:=Pr) (W:=3) (e:=205) (a:=some ⟨k,q,none⟩) (cap:=bc) (n:=1) f ET EU
 cases η
 obtain⟨X,ο,p14,rfl,rfl,s14⟩:=vI (P:=Pr) (W:=2) (e:=123) (a:=B) (cap:=j) (n:=2) f ET EU
 obtain⟨Y,π,p17,rfl,rfl,s17⟩:=vI (P:=Pr) (W:=2) (e:=137) (a:=ta) (cap:=tc) (n:=1) f ET EU
 obtain⟨α,τ,p23,rfl,rfl,s23⟩:=Mf (P:=Pr) (enc:=Ev.enc) (W:=7) (e:=47) (a:=al) (cap:=cl) (l:=[⟨0,0,1,1,0,5,0⟩,⟨0,1,4,1,0,5,0⟩,⟨0,2,3,1,0,5,0⟩]) f (EA _) EU
 obtain⟨β,υ,p24,θ,q24,s24⟩:=vI (P:=Pr) (W:=1) (e:=34) (a:=some a1) (cap:=1) (n:=1) f ET EU
 obtain rfl:p24=0:=ER
 cases θ
 obtain⟨δ,χ,p26,κ,q26,s26⟩:=vI (P:=Pr) (W:=1) (e:=3) (a:=some a2) (cap:=1) (n:=1) f ET EU
 obtain rfl:p26=0:=ER
 cases κ
 obtain⟨ε,ψ,p27,μ,q27,s27⟩:=vI (P:=Pr) (W:=1) (e:=3) (a:=some a3) (cap:=1) (n:=1) f ET EU
 obtain rfl:p27=0:=ER
 cases μ
 obtain⟨ζ,ω,p28,ν,q28,s28⟩:=vI (P:=Pr) (W:=1) (e:=3) (a:=some a4) (cap:=4) (n:=4) f ET EU
 obtain rfl:p28=0:=ER
 cases ν
 obtain⟨γ,φ,p25,ι,q25,s25⟩:=vI (P:=Pr) (W:=4) (e:=69) (a:=some a5) (cap:=3) (n:=3) f ET EU
 obtain rfl:p25=0:=ER
 cases ι
 have s0:Std Pr h (m,0,0) _:=vG (b:=m) (o:=0) f EX
 have s4:Std Pr h (x,0,0) _:=vG (b:=x) (o:=0) f EX
 have s5:Std Pr h (z,0,0) _:=vG (b:=z) (o:=0) f EX
 have s6:Std Pr h (t,0,0) _:=vG (b:=t) (o:=0) f EX
 have s9:Std Pr h (y,0,0) _:=vG (b:=y) (o:=0) f EX
 have s11:Std Pr h (D,0,0) _:=vG (b:=D) (o:=0) f EX
 have s12:Std Pr h (J,0,0) _:=vG (b:=J) (o:=0) f EX
 have s15:Std Pr h (F,0,0) _:=vG (b:=F) (o:=0) f EX
 have s16:Std Pr h (A,0,0) _:=vG (b:=A) (o:=0) f EX
 have s18:Std Pr h (fb,0,0) _:=vG (b:=fb) (o:=0) f EX
 have l0:Ob G 0 _root_.Go.Proofs.Z.fO:=um▸hG.Gj
 have l1:Ob G 1 _root_.Go.Proofs.Z.tF:=uk▸hg
 have l6:Ob G 6 _root_.Go.Proofs.Z.Wh:=tj▸hG.U0
 refine⟨v0,v1,v2,v3,_,_,_,Vt (P:=Pr) (g:=12) (sl:=[(0,0,0),(1,0,0),(2,0,0),(3,0,0),(4,0,0),(5,0,0),(6,0,0),(7,0,0),(8,0,0),(9,0,0),(10,0,0),(11,0,0),(m,0,0),(b1,o1,p1),(b2,o2,p2),(b3,o3,p3),(x,0,0),(z,0,0),(t,0,0),(s,u,p7),(b8,o8,p8),(y,0,0),(V,ξ,p10),(D,0,0),(J,0,0),(k,q,p13),(X,ο,p14),(F,0,0),(A,0,0),(Y,π,p17),(fb,0,0),(pl 0,0,0),(pl 1,0,0),(pl 2,0,0),(pl 3,0,0),(α,τ,p23),(β,υ,0),(γ,φ,0),(δ,χ,0),(ε,ψ,0),(ζ,ω,0)])
  ⟨Il f l0 ?_,Il f l1 ?_,Il f l6 ?_,s0 ?_,s1 ?_,s2 ?_,s3 ?_,s4<|by unfold oF;rw[aSg];exact⟨rfl,rfl,rfl,rfl,rfl,rfl,rfl,rfl,trivial,trivial⟩,s5<|by rw[aVl];repeat' first|exact trivial|exact rfl|refine⟨?_,?_⟩,s6 ?_,s7 ?_,s8 ?_,s9 ?_,s10 ?_,s11 ?_,s12 ?_,s13 ?_,s14 ?_,s15 ?_,s16 ?_,s17 ?_,s18 ?_,s19<|r19 _,s20<|r20 _,s21<|r21 _,s22<|r22 _,s23 ?_,s24 ?_,s25 ?_,s26 ?_,s27 ?_,s28 ?_,trivial⟩ (by cases v0<;>cases v1<;>cases v2<;>cases v3<;>kernel_rfl) ⟨HA,by show 12<=41;decide⟩ aOc,rfl,?_⟩
 all_goals
  repeat' first|exact trivial|exact rfl|refine⟨?_,?_⟩
end Go.Proofs.Z
end
variable {l:EK} {W:World} {cap:Nat}
namespace Go.Proofs.Z
open Go.Hm Go.Is Go.At Go.Mc Go.RowKit
def aT5:_root_.Go.Proofs.Z.aHc=Go.Nt.Bp:=EU
abbrev i7:List (Option IntKind):=[some .i64,some .i64,some .i64,some .i64,some .i64,some .i64,some .i64]
abbrev i4:List (Option IntKind):=[some .i64,some .i64,some .i64,some .i64]
abbrev i1:List (Option IntKind):=[some .i64]
def aJu:vU Tryz.prog 8 23=some i7:=EU
def aKn:vU Tryz.prog 8 69=some i4:=EU
def V7:vU Tryz.prog 8 3=some i1:=EU
def aG5:Tryz.prog.cellsOf 69=i4.length:=EU
def Oh:Tryz.prog.cellsOf 3=i1.length:=EU
def aD6:Tryz.prog.cellsOf 23=7:=EU
def V4:Tryz.prog.cellsOf 25=1:=EU
def aCl:Tryz.prog.cellsOf 34=1:=EU
def aEa:Tryz.prog.cellsOf 24=1:=EU
def aA8:Tryz.prog.cellsOf 27=11:=EU
def aCi (s:pI i7 l):∃a b c d e f g:Int,l=[I a,I b,I c,I d,I e,I f,I g]:=by
 obtain⟨a,l1,i,t⟩:=jT s;obtain⟨b,D,j,u⟩:=jT t;obtain⟨c,F,k,x⟩:=jT u;obtain⟨d,H,n,y⟩:=jT x;obtain⟨e,J,o,z⟩:=jT y;obtain⟨f,O,p,A⟩:=jT z;obtain⟨g,R,q,B⟩:=jT A;have r:=Ja B;subst r q p o n k j i;exact⟨a,b,c,d,e,f,g,rfl⟩
def aMb (n:pI i4 l):∃x:fM,l=x.enc/\True:=by
 obtain⟨a,l1,f,o⟩:=jT n;obtain⟨b,s,g,p⟩:=jT o;obtain⟨c,t,i,q⟩:=jT p;obtain⟨d,u,j,r⟩:=jT q;have k:=Ja r;subst k j i g f;exact⟨⟨a,b,c,d⟩,rfl,trivial⟩
def aPq (d:pI i1 l):∃x:Int,l=[I x]/\True:=by
 obtain⟨a,l1,b,f⟩:=jT d;have c:=Ja f;subst c b;exact⟨a,rfl,trivial⟩
def aOn (h:l.length=11) {a b c d:Value} (j:l[7]?=some a) (k:l[8]?=some b) (n:l[9]?=some c) (f:l[10]?=some d):l=l.take 7++[a,b,c,d]:=by
 apply mn;intro i;by_cases o:i<7;rw[p4 EW,v7 o];rw[l9 EW];have e:(l.take 7).length=7:=EW
 rw[e];by_cases g:i<11;have:i=7\/i=8\/i=9\/i=10:=ER
 rcases this with rfl|rfl|rfl|rfl;exact j;exact k;exact n;exact f;rw[l5 ER,l5 EW]
set_option maxRecDepth 100000 in
def zd {H:Type} {enc:TypeId×Value->H} {W:World} {base:Nat} {v:Value} {d:DataW H} {p:List MemPlace} (I:Value.okWide Tryz.prog W .any base 27 v) (h:DataW.Trod enc Tryz.prog W 0 (fun _=>true) true 27 v d p):
  ∃(C:bT) (q:EN) (k u:Nat) (s:EN) (B cW:Nat) (o:EN) (z t:Nat) (r:EN) (A x:Nat),v= .agg ⟨C.enc++[.slice q k u,.slice s B cW,.slice o z t,.slice r A x]⟩/\k<=maxLen/\Jm i4 W q k u/\oL i1 W s B cW/\oL i1 W o z t/\oL i1 W r A x:=by
 have j:=Tryz.underlying27
 obtain⟨l,rfl,J⟩:=aDx j I
 rw[aA8] at J
 have y:=Q4 (i:=0) (n:=8) j rfl aJu h
 obtain⟨q,k,u,U,hm,hP⟩:=Pb (i:=1) (n:=8) j rfl Tryz.underlying24 Tryz.underlying34 aEa aCl aKn aG5 ET h
 obtain⟨s,B,cW,V,hW⟩:=zZ (i:=2) (n:=8) j rfl Tryz.underlying25 V4 V7 Oh ET h
 obtain⟨o,z,t,X,hO⟩:=zZ (i:=3) (n:=8) j rfl Tryz.underlying25 V4 V7 Oh ET h
 obtain⟨r,A,x,F,Y⟩:=zZ (i:=4) (n:=8) j rfl Tryz.underlying25 V4 V7 Oh ET h
 have e:=aOn J U V X F
 have y:pI i7 ((l.drop 0).take<|Tryz.prog.cellsOf 23):=y
 rw[aD6,kt] at y
 obtain⟨a,b,c,O,R,f,g,D⟩:=aCi y
 rw[D] at e
 exact⟨⟨a,b,c,O,R,f,g⟩,q,k,u,s,B,cW,o,z,t,r,A,x,GB,hm,hP,hW,hO,Y⟩
def Vi {at':Nat->EK} (a:∀i,i<n->pI i1 (at' i)):∃l:EL,l.length=n/\∀G v,wM G 1 v n at'->A.Mz G v l:=by
 obtain⟨l,c,_,k⟩:=Gm (W:=1) (f:=fun x:Int=>[I x]) (R:=fun _=>True) fun i b=>aPq<|a i b;exact⟨l,c,fun G v d=>k G v d⟩
def aKl {at':Nat->EK} (a:∀i,i<n->pI i4 (at' i)):∃l:HO,l.length=n/\∀G v,wM G 4 v n at'->A.R7 G v l:=by
 obtain⟨l,c,_,k⟩:=Gm (W:=4) (f:=fM.enc) (R:=fun _=>True) fun i b=>aMb<|a i b;exact⟨l,c,fun G v d=>k G v d⟩
def aEv {F:Nat} {len:Nat} {r:OB} {rs:List OB} {t:Nat->Value} {vs:EK} {ns:EM} {at':Nat->Nat->EK} (d:aSw Pr W i4 F a len cap r rs t vs ns at'):
  ∃u:List (HO),u.length=len/\(∀p∈u,p.length<=maxLen)/\∀(G:Bg) k,k<G.base->G.old k=r.1->(∀i x,rs[i]?=some x->F+i<G.base/\G.old (F+i)=x.1)->
   ∃y:EK,y.length=u.length/\wM G 1 (t k) (y.map fun x=>[x]).length (fun i=>(y.map fun x=>[x]).getD i [])/\∀(i:Nat) (v:Value) (p:HO),y[i]?=some v->u[i]?=some p->A.R7 G v p:=by
 have f:∀i,∃l:HO,l.length<=maxLen/\∀n,ns[i]?=some n->∀G v,wM G 4 v n (at' i)->A.R7 G v l:=fun i=>by
  cases h:ns[i]? with
  |none=>exact⟨[],AK _,fun n d=>HC⟩
  |some n=>
   obtain⟨l,hl,k⟩:=aKl<|d.aW5 i n h;exact⟨l,by have:=d.nl i n h;omega,fun n' B=>by cases B;exact k⟩
 refine⟨(List.range len).map fun i=>(f i).choose,EV,fun p s=>?_,fun G k Y V g=>?_⟩
 .obtain⟨i,_,rfl⟩:=gL.1 s;exact(f i).choose_spec.1
 obtain⟨o1,_,o2⟩:=d.old G k Y V g
 refine⟨vs,by simp[d.lvs],?_,fun i v p I s=>?_⟩
 .rw[js,d.lvs];obtain⟨a,c,e,X⟩:=o1;refine⟨a,c,e,fun i H=>?_⟩;obtain⟨b,o,cells,J,O,R,U⟩:=X i H;refine⟨b,o,cells,J,O,R.trans ?_,U⟩;have z:i<vs.length:=by rw[d.lvs];exact H
  simp[ay,aL z]
 .have j:i<len:=by have:=(eh.1 I).1;rw[d.lvs] at this;exact this
  have D:p=(f i).choose:=by
   rw[gi,nh j] at s;simpa using s.symm
  subst D
  have q:ns[i]?=some (ns[i]'(by rw[d.bN];exact j)):=aL _
  exact(f i).choose_spec.2 _ q G v (o2 i v _ I q).1
def aIg:Tryz.prog.cellsOf 39=i4.length:=EU
def aQf (f:pI i4 l):∃x:Do,l=x.enc/\True:=by
 obtain⟨a,b,c,d,rfl⟩:=aSc f;exact⟨⟨a,b,c,d⟩,rfl,trivial⟩
def aKq {at':Nat->EK} (a:∀i,i<n->pI i4 (at' i)):∃l:HS,l.length=n/\∀G v,wM G 4 v n at'->aAe G v l:=by
 obtain⟨l,c,_,k⟩:=Gm (W:=4) (f:=Do.enc) (R:=fun _=>True) fun i b=>aQf<|a i b;exact⟨l,c,fun G v d=>k G v d⟩
def ib (hL:Gl W) {C:bT} {O V J U I:EN} {H cP lW cW lO Y lV cV lL X:Nat} (hm:H<=maxLen) (hP:Jm i4 W O H cP) (hW:oL i1 W V lW cW) (hO:oL i1 W J lO Y) (hV:oL i1 W U lV cV) (hE:oL i4 W I lL X) {f:FuncId}
  (mk:Value->Value->EK) (β:∀ρ c c' d d',aZ ρ c c'->aZ ρ d d'->bH ρ (mk c d) (mk c' d'))
  (γ:∀(G:Bg) (h:AH) (pv wv ov vv lv:Value) (ps:List (HO)) (ws os vs:EL) (l:HS),ps.length<=9223372036854775807->(∀p∈ps,p.length<=9223372036854775807)->Gb G->Ob G 1 Go.Is.tF->A.My G pv wv ov vv ps ws os vs->aAe G lv l->Hs G h []->ID f (mk (.agg ⟨Dw C pv wv ov vv⟩) lv) h fun v _=>v= .bool true):
  Calls Pr f ⟨mk (.agg ⟨C.enc++[.slice O H cP,.slice V lW cW,.slice J lO Y,.slice U lV cV]⟩)<|.slice I lL X⟩ W fun e W'=>e= .returned (.bool true)/\Below W.heap.size W W':=by
 obtain⟨D,tw,bw,vw,φ,fw,ow⟩:=Dh Pr hW
 obtain⟨ro,to,bo,vo,π,fo,oo⟩:=Dh Pr hO
 obtain⟨rv,tv,bv,ν,υ,fv,μ⟩:=Dh Pr hV
 obtain⟨rl,tl,bl,vl,ο,fl,ol⟩:=Dh Pr hE
 obtain⟨rp,j,tp,vs,ns,τ,F⟩:=aFy Pr 17 hP
 obtain⟨κ,ω,kw⟩:=Vi fw
 obtain⟨ι,χ,ko⟩:=Vi fo
 obtain⟨lvs,ψ,kv⟩:=Vi fv
 obtain⟨le,hle,ke⟩:=aKq fl
 obtain⟨ps,η,ε,kp⟩:=aEv F
 have α:=hL
 have h4:=Bw hL
 obtain⟨⟨n,z0,h0⟩,⟨q,u,h1⟩,⟨r,z2,h2⟩,⟨s,z3,h3⟩,_⟩:=hL
 let R:List OB:=D::ro::rv::rl::rp::j
 have hR:∀i x,j[i]?=some x->R[5+i]?=some x:=fun i x a=>by
  rw[DE];exact a
 have reads:Uz Pr (12+R.length) (Lw 12 (glM n z0 q u r z2 s z3) R) (Gg 12 R) W:=wo HA h4 (aTg h0 h1 h2 h3) (fun x a=>by
  rcases j2.1 a with rfl|a;exact bw.at' _;rcases j2.1 a with rfl|a;exact bo.at' _;rcases j2.1 a with rfl|a;exact bv.at' _;rcases j2.1 a with rfl|a;exact bl.at' _;rcases j2.1 a with rfl|a;exact F.out _ fun i y hy=>by
   have:=Aq (g:=12)<|hR i y hy;rwa [show 12+(5+i)=17+i by omega] at this
  exact(F.ok x a).at' _)
 have ξ:R.length=5+j.length:=by show j.length+1+1+1+1+1=_;omega
 let G:Bg:=⟨12+R.length,Lw 12 (glM n z0 q u r z2 s z3) R,12+R.length⟩
 have t:∀i x,R[i]?=some x->12+i<G.base/\G.old (12+i)=x.1:=fun i x a=>⟨by have:=(eh.1 a).1;show 12+i<12+R.length;omega,aEx a⟩
 have gw:=t 0 D rfl
 have go:=t 1 ro rfl
 have gv:=t 2 rv rfl
 have gl:=t 3 rl rfl
 have gp:=t 4 rp rfl
 obtain⟨vi,θ,ζ,δ⟩:=kp G 16 gp.1 gp.2 (fun i x a=>by
  have:=t (5+i) x<|hR i x a;rwa [show 12+(5+i)=17+i by omega] at this)
 have gb:∀(b:Nat) (l:EK) (e:TypeId) (z:Nat×Nat),b<12->glM n z0 q u r z2 s z3 b=some (.cells l e z true)->Ob G b l:=fun b l e z hb hg=>⟨by show b<12+R.length;omega,e,z,true,(aHj (g:=12) (i:=b) (gl:=glM n z0 q u r z2 s z3) (rs:=R) hb).trans hg⟩
 have ok:=γ G (Go.Ab.qR G.base G.old) (tp 16) (tw 12) (to 13) (tv 14) (tl 15) ps κ ι lvs le (by rw[η];unfold maxLen at hm;omega) (fun p hp=>by have:=ε p hp;unfold maxLen at this;omega)
  ⟨by first|exact gb 0 _ n z0 ER rfl|(rw[<-um];exact gb 0 _ n z0 ER rfl),by first|exact gb 3 _ r z2 ER rfl|(rw[<-aT5];exact gb 3 _ r z2 ER rfl),by first|exact gb 6 _ s z3 ER rfl|(rw[<-tj];exact gb 6 _ s z3 ER rfl)⟩ (by first|exact gb 1 _ q u ER rfl|(rw[<-uk];exact gb 1 _ q u ER rfl))
  ⟨⟨vi,θ,ζ,δ⟩,kw G _ (ow G 12 gw.1 gw.2).1,ko G _ (oo G 13 go.1 go.2).1,kv G _ (μ G 14 gv.1 gv.2).1⟩ (ke G _ (ol G 15 gl.1 gl.2).1) aE2
 have B:bH (Gg 12 R) (mk (.agg ⟨Dw C (tp 16) (tw 12) (to 13)<|tv 14⟩)<|tl 15) (mk (.agg ⟨C.enc++[.slice O H cP,.slice V lW cW,.slice J lO Y,.slice U lV cV]⟩)<|.slice I lL X):=by
  refine β _ _ _ _ _ ?_<|vl _ 15<|Aq (g:=12) (i:=3) (rs:=R) rfl;simp only[aZ];exact⟨_,bH.append (tX _ GW)<|bH.cons (F.rel _ 16<|Aq (g:=12) (i:=4) (rs:=R) rfl)<|bH.cons (vw _ 12<|Aq (g:=12) (i:=0) (rs:=R) rfl)<|bH.cons (vo _ 13<|Aq (g:=12) (i:=1) (rs:=R) rfl)<|bH.cons (ν _ 14<|Aq (g:=12) (i:=2) (rs:=R) rfl) bH.nil,rfl⟩
 have:=Q3 (aVw W.heap.size h4) α reads B ok
 intro cs
 obtain⟨e,w',fr,⟨ρ',o,h',v',he,k,hq,_,hb⟩,a⟩:=this cs
 rw[hq] at k
 simp only[aZ] at k
 exact⟨e,w',fr,⟨by rw[he,k],hb⟩,a⟩
end Go.Proofs.Z
section
attribute [local irreducible] bQ Br sA vD vT F4 pC yQ nJ Uh iZ pV tD sH rQ pG vX Sn Rx R8 Rz R0 Xm mQ qJ kH jX Ao Jw nA Qv Ub B0 Cl Cx Xf xZ uP mK gY dD cQ
namespace Go.Proofs.Z.A
open Go.Hm Go.At Go.Is
variable {G:Bg} {h:AH}
variable {ps:List (HO)}
def aK2 {C:bT} {ws:EL} (h:Fv C ps ws os vs=0):(mr C ps ws os vs).Ok:=by
 unfold Fv at h;split at h;cases h;rename_i hC;split at h;cases h;rename_i k;split at h;rename_i c;exact absurd h c;rename_i c;refine⟨show C.Ok by simpa using hC,fun i d=>?_,?_⟩;have b:i<ps.length:=by have:(i:Int)<C.aE:=d;omega
 have g:ps.getD i []∈ps:=by rw[ay,aL b];exact sz _
 have a:=Am (by simpa using c) _ g;have f:=Ex a;refine⟨show(0:Int)<=0 by decide,show(0:Int)<=32 by decide,rfl,f,fun x j=>?_⟩;unfold pB at a;rw[aab] at a;exact jk _ _ a x j;show(os.length:Int)=C.bB;omega
variable {pm:Nat}
def aIz {m:AM} (p:m.Ok) (z:(i:Int)<m.fA.aE) (d:Hs G h L) [x:dH (Fu G pm) L m L']
  (u:∀k,Hs G k (Fu G pm m::L')->Q (.tuple ⟨[.agg ⟨(m.aC i).core⟩,I 0]⟩) k):ID 14 [IE pm,I i] h Q:=by
 have t:m.fA.aE<=4/\1<=m.fA.aE:=⟨p.fA.1.2,p.fA.1.1⟩
 have f:i<m.fA.aE.toNat:=ER
 obtain⟨b,o,g,a,c,q,d⟩:=P2<|x.of d
 refine cW<|bX d fun p1 h d=>cZ<|cF<|bW ?_
 refine aB<|aA<|ai pm d rfl<|cE<|zN ER<|aM (c:=[I i]) rfl<|dC d rfl rfl rfl fun y h d=>qY d fun h d=>cG<|eI<|aad ?_
 refine aB<|aA<|ai pm d rfl ?_
 have d:=(d.aN<|dV m.fA.aE.toNat fun i=>nV b (o+i*8)<|m.aC i).kE i f
 obtain⟨r,s,d⟩:=Us d
 refine dR f<|aA<|aX (b:=b) (o:=o+i*8) d ET (l:=(m.aC i).core) rfl rfl<|an (b:=p1) (o:=0) d fun h d=>am p1 d (l:=(m.aC i).core) rfl rfl<|u _ ?_
 have d:=B7<|d.bZ (aG b (o+i*8)<|(m.aC i).core++[.slice r (m.aC i).prog.length s])<|dJ 4 69 r s ((m.aC i).prog.length,zT (m.aC i).prog)
 have d:=d.oG (n:=m.fA.aE.toNat) (i:=i) (fun j=>nV b (o+j*8)<|m.aC j) (fun j=>nV b (o+j*8)<|m.aC j) f fun _ _ _=>rfl
 exact wU (b:=b) (o:=o) (cap:=g) (a:=a) (c:=c) (mb:=q) d.to
def G2 {m:AM} (q:m.Ok) (k:i<m.fA.aF*2) (p:Ob G 0 fO) (d:Hs G h L) [r:dH (Fu G pm) L m L']
  (n:∀g,Hs G g (Fu G pm m::L')->Q (.tuple ⟨[I<|iP m.mem i,I 0]⟩) g):ID 17 [IE pm,I i] h Q:=by
 obtain⟨b,o,f,a,c,j,d⟩:=P2<|r.of d
 refine cW<|cZ<|cF<|aB<|aA<|ai pm d rfl ?_
 refine Uk q.fA p d k fun h d=>aH rfl<|aH rfl<|n _ ?_
 exact wU (b:=b) (o:=o) (cap:=f) (a:=a) (c:=c) (mb:=j) d.to
end Go.Proofs.Z.A
end
variable {v:Value} {x:EK}
namespace Go.Ab
variable {P:Program} {K:FuncId->EK->HQ} {G:Bg} {h:AH} {W:Nat} {e:TypeId} {l:HY}
theorem aTi {j:Nat} {u:Value} (d:Hs G h (C4 G W e v l::L)) (D:l[i]?=some x) (hu:x[j]?=some u) (B:k u):bQ (mQ W v<|I i) fun p=>bQ (iZ j p) fun q=>bQ (sA h q) k:=by
 obtain⟨s,A⟩:=eh.1 D;have R:x.length=W:=Vd d x<|A▸sz s;have hj:j<W:=ES
 obtain⟨r,z,t⟩:=d.R3;obtain⟨U,V,n,F,H,rfl⟩:=z;obtain⟨J,n⟩:=n;rcases n with⟨O,rfl⟩|⟨a,c,rfl,n⟩;obtain⟨a,c,rfl,g⟩:=O;obtain⟨b,o,cells,rfl,y,Y,hle⟩:=g i s;refine dR s<|aA ?_;refine Cp d y (o:=o+i*W) (j:=0+j) ?_ B;grind;have f:Hs G h (dJ W e a c (l.length,l.flatten)::L):=⟨d.base,d.old,d.wf,d.fr,⟨_,⟨U,V,n,F,H,rfl⟩,t⟩⟩;obtain⟨b,o,rfl,f⟩:=f.gF ER;refine dR s<|aA ?_;rw[show pt b (o+i*W) (0+j)=pt b o (i*W+j) by simp only[pt];grind];refine aD f ?_ B;have X:=(yH J D).1;grind
end Go.Ab
variable {p2:Nat}
namespace Go.Proofs.Z
open Go.Hm Go.At Go.Mc Go.Ct Go.Nt Go.Is
open Go.Qt (Xh vF Fa QR QI QE lZ)
attribute [local irreducible] bQ Br sA vD vT F4 pC yQ nJ Uh iZ pV tD sH rQ pG vX Sn Rx R8 Rz R0 Xm mQ qJ kH jX Ao Jw nA Qv Ub B0 Cl Cx Xf xZ uP mK gY dD cQ
variable {P:Nat->HO}
variable {G:Bg} {h:AH} {Cf:bT} {M:cN} {S:Nat->aT} {A0:AM}
variable {ps:List (HO)}
def aLk {f:Value} {ws:EL} (q:ps.length<=9223372036854775807) (hG:Gb G) (n:Ob G 1 tF) (d:A.My G pv f ov vv ps ws os vs) (a:Hs G h L)
  (i:∀c,Hs G c L->Q (.pointer none) c) (p:∀m c,Fv Cf ps ws os vs=0->ps.length<=6/\ws.length<=6/\os.length<=20/\vs.length<=80->Hs G c (bO G Cf m (MC.lK ⟨Cf,ps,ws,os,vs⟩)::L)->Q (IE m) c):ID 4 [.agg ⟨Dw Cf pv f ov vv⟩] h Q:=by
 refine cW<|dY (cs:=Dw Cf pv f ov vv) a fun j h a=>am j a (l:=Dw Cf pv f ov vv) rfl rfl ?_
 refine aPk q d a (fun k h a=>cG<|eI<|eV<|bW ?_) fun h a=>cG<|eI<|cF<|i _ a.tail
 refine am j a (l:=Dw Cf pv f ov vv) rfl rfl ?_
 refine r9 (Cf:=Cf) ER hG n d a (fun g h a=>aH rfl<|aH rfl<|bK<|bU g<|i _ a.tail) fun g m h a=>?_
 exact aH rfl<|aH rfl<|bK<|aaa<|p m h g k a.to
def vJ {p:HO} (s:p.length<=9223372036854775807) (k:A.R7 G v p) (a:Hs G h L) (z:(∀x∈p,x.op≠8)->∀b,Hs G b L->Q (.bool false) b) (B:∀b,Hs G b L->Q (.bool true) b):ID 7 [v,I 8,I 0] h Q:=by
 have loop:∀f i h,i+f=p.length->(∀j,j<i->∀x,p[j]?=some x->x.op≠8)->Hs G h L->Dd 7 1 [] Q [v,I 8,I 0,I i] h:=by
  intro f;induction f with
  |zero=>
   intro i h r d a;refine bW<|A.oM k ?_;rw[A.xV];refine aQ<|aaa<|z (fun x c=>?_) h a;have⟨j,g,hjx⟩:=AP c;exact d j ER x (by rw[aL g,hjx])
  |succ f t=>
   intro i h r d a;have⟨x,c,_⟩:=lR (l:=p) (i:=i) ER;refine bW<|A.oM k ?_;rw[A.xV];refine aQ (aad<|bW<|aTi (A.Ih k a) (x:=x.enc) (j:=0) (u:=I x.op) (by rw[A.Sd,gi,c];rfl) rfl<|bM<|bC (fun o=>?_) fun o=>?_);exact bM<|bU rfl<|B h a;have q:((i:Int)+1)=((i+1:Nat):Int):=ER
   refine aac ?_;rw[q];refine t (i+1) h ER (fun j g y n=>?_) a;by_cases e:j=i;rw[e,c] at n;cases n;exact o;exact d j ER y n
 exact cW<|loop p.length 0 h ER (fun j g=>ER) a
def aPi (C:bT) (ws:EL):Prop:=∀i:Nat,(i:Int)<C.aE->ws.getD i 0≠0/\∀k:Nat,k<i->ws.getD k 0≠ws.getD i 0
def Nf {l:EL} (h:i<l.length):(A.Fm l)[i]?=some [I<|l.getD i 0]:=by
 rw[A.Fm,gi,aL h,ay,aL h];rfl
def aAc {g:Value} {ws:EL} {t1 t5:Value} (hc:Cf.aE<=4) (X:ps.length=Cf.aE.toNat) (Y:ws.length=Cf.aE.toNat) (D:∀p∈ps,p.length<=9223372036854775807)
  (z:A.My G pv g ov vv ps ws os vs) (aw:∀{h:AH} {L:HL},Hs G h L->ID 6 [] h Q)
  (O:aPi Cf ws->(∀p∈ps,∀x∈p,x.op≠8)->∀J,Hs G J (aG p2 0 (Dw Cf pv g ov vv)::L)->Dd 3 4 [] Q [t1,IE p2,t5] J):
  ∀(f i:Nat) (h:AH),i+f=Cf.aE.toNat->(∀j:Nat,j<i->(ws.getD j 0≠0/\∀k:Nat,k<j->ws.getD k 0≠ws.getD j 0)/\∀x∈ps.getD j [],x.op≠8)->Hs G h (aG p2 0 (Dw Cf pv g ov vv)::L)->Dd 3 2 [] Q [t1,IE p2,t5,I i] h:=by
 obtain⟨⟨vi,hv,F,B⟩,d,_,_⟩:=z
 intro f
 induction f with
 |zero=>
  intro i h V s a
  refine bW<|aA<|aA<|ai p2 a (v:=I Cf.aE) rfl<|aQ<|aaa<|O (fun j q=>(s j ER).1) (fun p r x hx=>?_) h a
  have⟨j,q,hjp⟩:=AP r
  refine(s j ER).2 x ?_
  rw[ay,aL q,hjp]
  exact hx
 |succ f ih=>
  intro i h V s a
  have n:i<ws.length:=ER
  have⟨p,r,_⟩:=lR (l:=ps) (i:=i) ER
  have⟨v,hvi,_⟩:=lR (l:=vi) (i:=i) ER
  have inner:∀(f k:Nat) (h:AH),k+f=i->(∀j:Nat,j<k->ws.getD j 0≠ws.getD i 0)->Hs G h (aG p2 0 (Dw Cf pv g ov vv)::L)->Dd 3 5 [] Q [t1,IE p2,t5,I i,I k] h:=by
   intro f;induction f with
   |zero=>
    intro k h u c a;refine bW<|aQ<|aaa<|bW<|aA<|ai p2 a (v:=g) rfl<|tH (A.pN d a) (Nf n) rfl<|bM<|bC (fun _=>aw a) fun R=>?_;refine aA<|ai p2 a (v:=pv) rfl<|tH (zV (e:=34) EV F a) (x:=[v]) GV rfl ?_;refine vJ (D p<|fm r) (B i v p hvi r) a (fun U h a=>cF<|bW<|aac ?_) fun h a=>eV<|aw a;have t:((i:Int)+1)=((i+1:Nat):Int):=ER
    rw[t];refine ih (i+1) h ER (fun j q=>?_) a;by_cases e:j=i;subst e;refine⟨⟨R,fun k O=>c k ER⟩,?_⟩;rw[ay,r];exact U;exact s j ER
   |succ f H=>
    intro k h u c a;refine bW<|aQ<|aad<|bW<|bD a fun rr h a=>aA<|ai p2 a (v:=g) rfl<|tH (A.pN d a) (Nf (i:=k) ER) rfl ?_;refine aA<|ai p2 a (v:=g) rfl<|tH (A.pN d a) (Nf n) rfl<|bM<|bC (fun _=>aw a) fun y=>bW<|aac ?_;have t:((k:Int)+1)=((k+1:Nat):Int):=ER
    rw[t];refine H (k+1) h ER (fun j q=>?_) a.to;by_cases e:j=k;subst e;exact y;exact c j ER
  exact bW<|aA<|aA<|ai p2 a (v:=I Cf.aE) rfl<|aQ<|aad<|bW<|inner i 0 h ER (fun j q=>ER) a
def yh {q:Value} {ws:EL} {t1 t5:Value} (z:os.length<=20)
  (p:A.My G pv q ov vv ps ws os vs) (aw:∀{h:AH} {L:HL},Hs G h L->ID 6 [] h Q)
  (d:(∀o∈os,o≠4)->∀r,Hs G r (aG p2 0 (Dw Cf pv q ov vv)::L)->Dd 3 10 [] Q [t1,IE p2,t5] r):
  ∀(f i:Nat) (h:AH),i+f=os.length->(∀j:Nat,j<i->os.getD j 0≠4)->Hs G h (aG p2 0 (Dw Cf pv q ov vv)::L)->Dd 3 6 [] Q [t1,IE p2,t5,I i] h:=by
 have c:=p.os
 intro f
 induction f with
 |zero=>
  intro i h u g a
  refine bW<|aA<|ai p2 a (v:=ov) rfl<|(fun d=>Kj c d)<|aQ<|aaa<|d (fun o x=>?_) h a
  have⟨j,s,hjo⟩:=AP x
  have:=g j ER
  rw[ay,aL s,hjo] at this
  exact this
 |succ f y=>
  intro i h u g a
  have k:i<os.length:=ER
  refine bW<|aA<|ai p2 a (v:=ov) rfl<|(fun d=>Kj c d)<|aQ<|aad<|bW ?_
  refine aA<|ai p2 a (v:=ov) rfl<|tH (A.pN c a) (Nf k) rfl<|bM<|bC (fun _=>aw a) fun n=>bW<|aac ?_
  have t:((i:Int)+1)=((i+1:Nat):Int):=ER
  rw[t]
  refine y (i+1) h ER (fun j s=>?_) a
  by_cases e:j=i
  .subst e;exact n
  .exact g j ER
end Go.Proofs.Z
variable {mb:Nat}
section
attribute [local irreducible] bQ Br sA vD vT F4 pC yQ nJ Uh iZ pV tD sH rQ pG vX Sn Rx R8 Rz R0 Xm mQ qJ kH jX Ao Jw nA Qv Ub B0 Cl Cx Xf xZ uP mK gY dD cQ
namespace Go.Ab
variable {G:Bg} {h:AH}
def Hs.un5 {A B C D E:HP} (a:Hs G h (sp [A,B,C,D,E]::L)):Hs G h (A::B::C::D::E::L):=Hs.dT a
def Hs.un6 {A B C D E F:HP} (a:Hs G h (sp [A,B,C,D,E,F]::L)):Hs G h (A::B::C::D::E::F::L):=Hs.dT a
def Hs.pk6 {A B C D E F:HP} (a:Hs G h (A::B::C::D::E::F::L)):Hs G h (sp [A,B,C,D,E,F]::L):=Hs.kC (A:=[A,B,C,D,E,F]) a
end Go.Ab
namespace Go.Proofs.Z
open Go.Hm Go.At Go.Mc Go.Ct Go.Nt Go.Is
instance:Fx qZ 2:=⟨fun _=>rfl,fun _=>rfl⟩
variable {G:Bg} {h:AH} {C:bT}
def aK3 (p:Nat) (l:IA):HP:=xC fun x:EN×Nat=>sp [aG p 0 [.slice x.1 l.length x.2],ls qZ 2 123 x.1 x.2 l]
def aW0 {p:Nat} {l:IA} (hb:l.length<=1000):lh Pr K G 144 [] [IE p] (aK3 p l) ((l.zipIdx).map fun x=>[I x.2,.agg ⟨qZ x.1⟩]):=by
 intro k J y L h Q d B q r;obtain⟨⟨a,c⟩,d⟩:=d.uI;have d:=d.yO;have g:∀{h:AH} {M:HL},Hs G h (aG p 0 [.slice a l.length c]::ls qZ 2 123 a c l::M)->Hs G h (aK3 p l::M):=fun d=>Hs.tG (A:=fun x:EN×Nat=>sp [aG p 0 [.slice x.1 l.length x.2],ls qZ 2 123 x.1 x.2 l]) (a,c) d.Bc;refine cW<|ai p d rfl<|cE ?_;have loop:∀(f i:Nat) (h:AH),i+f=l.length->Hs G h (aG p 0 [.slice a l.length c]::ls qZ 2 123 a c l::k (((l.drop i).zipIdx i).map fun x=>[I x.2,.agg ⟨qZ x.1⟩])::L)->Dd 144 1 [] Q [y,.slice a l.length c,I l.length,I i] h:=by
  intro f;induction f with
  |zero=>
   intro i h t d;rw[eg ER] at d;exact bW (aQ<|aaa<|q _ _<|g d)
  |succ f D=>
   intro i h t d;obtain⟨x,z,s⟩:=oY (l:=l) (i:=i) ER;rw[s,List.zipIdx_cons,kx] at d;refine bW (aQ<|aad<|bW<|vS (l:=l) (a:=a) (c:=c) (enc:=qZ) (e:=123) d ET ER (by rw[aP];exact z)<|bX d fun p3 h d=>an (b:=p3) d fun h d=>am p3 d (l:=qZ x) rfl rfl ?_);refine(B _ _ h _<|d.aN<|k ([I i,.agg ⟨qZ x⟩]::(((l.drop<|i+1).zipIdx<|i+1).map fun x=>[I x.2,.agg ⟨qZ x.1⟩]))).mono fun v n u=>?_;rcases u with⟨rfl,j⟩|⟨rfl,j⟩;exact cG<|cF<|bW<|aac<|D (i+1) n ER j.to;exact cG<|eV<|r _ _<|g j.to
 exact loop l.length 0 h ER (by rw[kt];exact d)
end Go.Proofs.Z
namespace Go.Proofs.Z
open Go.Hm Go.At Go.Mc Go.Ct Go.Nt Go.Is
variable {mem:Nat->Ln}
section
def yc (n k:Nat) (mem:Nat->Ln):IA:=(List.range n).map fun j=>if j<k then mem j else(0,0)
def Wp {k:Nat}:(yc n k mem).length=n:=by simp[yc]
theorem aKj {k:Nat}:(yc n k mem).set k (mem k)=yc n (k+1) mem:=by
 apply mn;intro i;simp only[yc,BU,js,List.length_range,gi,nh];grind
def aM8:yc n n mem=(List.range n).map mem:=by
 apply sr;intro j a;rw[aXg Fe]
def xr (n:Nat):gB [I 0,I 0] n=eL qZ (List.replicate n (0,0)):=by
 induction n with
 |zero=>rfl
 |succ n a=>rw[AO,qV,<-a];rfl
theorem aH9:gB [I 0,I 0] n=eL qZ (yc n 0 mem):=by
 rw[xr];congr 1;apply mn;intro i;simp only[yc,gi,List.getElem?_replicate];grind
variable {G:Bg} {h:AH} {C:bT}
theorem ni (hC:C.Ok) (z:Ob G 0 fO) (d:Hs G h L) [m:dH (eU G C.aF mb C) L mem L']
  (O:∀a c p,Hs G p (ls qZ 2 123 a c ((List.range C.aF).map mem)::eU G C.aF mb C mem::L')->Q (.slice a C.aF c) p):ID 88 [IE mb] h Q:=by
 have s:=bT.bk hC
 have R:=bT.eJ hC
 have F:=hC.2.1
 have loop:∀(f i:Nat) (a:EN) (c:Nat) (h:AH),i+f=C.aF->Hs G h (ls qZ 2 123 a c (yc C.aF i mem)::eU G C.aF mb C mem::L')->Dd 88 2 [] Q [IE mb,.slice a C.aF c,I C.aF,I i] h:=by
  intro f;induction f with
  |zero=>
   intro i a c h J d;obtain rfl:i=C.aF:=ER
   rw[aM8] at d;exact bW (aQ<|aaa<|O a c h d)
  |succ f U=>
   intro i a c h J d;have x:i<C.aF:=ER
   obtain⟨b,o,g,d⟩:=sF<|d.aN<|eU G C.aF mb C mem;refine bW<|aQ<|aad<|bW<|wQ hC z d x fun h d=>aH rfl<|aH rfl<|aH rfl<|bM<|bU rfl<|bW ?_;have d:=(d.aN<|dV C.bF.toNat fun i=>hU C.aF C.bF.toNat b (o+i*3) i mem).kE (i % C.bF.toNat)<|AA _ s.2.1;obtain⟨r,w,D,cp,d⟩:=xD d;refine aB<|aA<|aD d rfl ?_;have q:=I7 s.2.1 x;obtain⟨u,A,rfl,H,d,j⟩:=Hs.sb (Nv (B:=C.bF.toNat) (i:=i % C.bF.toNat) (mem:=mem)) q<|d.aN<|dJ 2 123 D cp (mI C.aF C.bF.toNat<|i % C.bF.toNat,(List.range<|mI C.aF C.bF.toNat<|i % C.bF.toNat).flatMap<|V3 C.bF.toNat (i % C.bF.toNat) mem);rw[lz s.2.1] at d;refine dR q<|aX d ET (l:=qZ<|mem i) rfl rfl ?_;have d:=j _ _ _ rfl rfl<|d.bZ (aG u (A+i/C.bF.toNat*2)<|qZ<|mem i) H;rw[Nk s.2.1,rM] at d;have d:=rE<|d.sg (b:=b) (o:=o+i % C.bF.toNat*3) (c:=[I r,I w,.slice (some ⟨u,A,none⟩) (mI C.aF C.bF.toNat<|i % C.bF.toNat) cp]) rfl;have d:Hs _ _ (eU G C.aF mb C mem::ls qZ 2 123 a c (yc C.aF i mem)::L'):=rK (b:=b) (o:=o) (cap:=g)<|(d.oG (n:=C.bF.toNat) (i:=i % C.bF.toNat) (fun i=>hU C.aF C.bF.toNat b (o+i*3) i mem) (fun i=>hU C.aF C.bF.toNat b (o+i*3) i mem) (AA _ s.2.1) fun _ _ _=>rfl).to;have e:(yc C.aF i mem).length=C.aF:=Wp;have:=W1 (l:=yc C.aF i mem) (a:=a) (c:=c) (enc:=qZ) (e:=123) (i:=(i:Int)) (y:=mem i) (h:=_) (k:=fun p=>bQ (vX .add (I i)<|I 1) fun v=>Dd 88 2 [] Q [IE mb,.slice a C.aF c,I C.aF,v] p) (d.aN<|ls qZ 2 123 a c<|yc C.aF i mem) ET ER (by rw[e];omega) fun p t=>?_;rw[e] at this;exact this;rw[aP,aKj] at t;exact aac<|U (i+1) a c p ER t.to
 obtain⟨b,o,g,d⟩:=sF<|show Hs G h (eU G C.aF mb C mem::L') from m.of d
 refine cW<|cZ<|cF<|bW<|aB<|aA<|aX d ET (l:=C.enc) rfl rfl<|qK hC z d fun h d=>tf ER ER ?_
 have d:=rK d
 refine dC (W:=2) (n:=C.aF) (c:=C.aF) d (by rw[aH9 (mem:=mem),Dc,Wp]) rfl (by rw[aH9 (mem:=mem)];exact Kw) fun a h d=>?_
 rw[aH9 (mem:=mem)] at d
 refine cE<|loop C.aF 0 (some a) C.aF h ER ?_
 unfold ls
 rw[Wp]
 exact d
end
variable {G:Bg} {h:AH} {C:bT}
abbrev yF (l:Nat):Value:= .func (.yield l) #[] #[]
abbrev rwF (z:Nat):Value:= .func (.func 222) #[] #[IE z]
def aAk {F:fI} (hC:C.Ok) (j:∀c w,(F c w).length<=500) (a:Hs G h L) [m:dH (pU C f) L F L']
  (k:∀z d p i,d.length=4*C.aE.toNat->Hs G i (aG p 0 [rwF z]::Lf z d::qF E7 d (dF F)::pU C f F::L')->Q (.func (.func 86) #[] #[IE p]) i):ID 42 [IE f] h Q:=
 cW (rh (C:=C) (F:=F) hC j (m.of a) fun z d h g a=>bX a fun p h a=>an (b:=p) a fun h a=>k z d p h g a)
end Go.Proofs.Z
end
namespace Go.Proofs.Z.C
open Go.Hm Go.Ct
def aOr {h:AH} {W bytes:Nat} {e:TypeId} {k:Value×AH->Prop} (b:k (.slice none 0 0,h)):bQ (kH W bytes e h (.slice none 0 0)<|.slice a 0 c) k:=
 ⟨_,by cases a<;>simp[kH,C9,lE],b⟩
attribute [local irreducible] bQ Br sA vD vT F4 pC yQ nJ Uh iZ pV tD sH rQ pG vX Sn Rx R8 Rz R0 Xm mQ qJ kH jX Ao Jw nA Qv Ub B0 Cl Cx Xf xZ uP mK gY dD cQ
variable {G:Bg} {h:AH}
variable {S:Nat->HN}
def W2 {b o:Nat} (f:i<n) (d:Hs G h L) [m:eR (dV n fun i=>dL b (o+i*1)<|S i) L L'] (g:∀a c,k<|.slice a (S i).length c):bQ (mQ 1 (.slice (some ⟨b,o,none⟩) n cap)<|I i) fun p=>bQ (sA h p) k:=by
 have d:=(d.cR m.cR).kE i f;obtain⟨a,c,d⟩:=sX d;exact dR f<|aD d rfl<|g a c
def aFp (a:Q (.slice none 0 0) h):ID 138 [.slice none 0 0,I 0] h Q:=
 uL (F:=Lh 215 0) rfl (by unfold Lh;rw[aXg rfl]) a
def ia {b o:Nat} (q:n<=1000) (j:∀i,i<n->S i=[]) (k:Hs G h L) [m:eR (dV n fun i=>dL b (o+i*1)<|S i) L L'] (p:Q (.slice none 0 0) h):
  ID 77 [.slice (some ⟨b,o,none⟩) n cap] h Q:=by
 have two:∀(f i:Nat),i+f=n->Dd 77 6 [] Q [.slice none 0 0,.slice (some ⟨b,o,none⟩) n cap,I n,I i] h:=by
  intro f;induction f with
  |zero=>intro i d;exact bW (aQ<|aaa p)
  |succ f g=>
   intro i d;refine bW<|aQ<|aad<|bW<|W2 (S:=S) ER k fun a c=>?_;rw[j i ER];exact aOr<|aac<|g (i+1) ER
 have rG:∀(f i:Nat),i+f=n->Dd 77 1 [] Q [.slice (some ⟨b,o,none⟩) n cap,I 0,.slice (some ⟨b,o,none⟩) n cap,I n,I i] h:=by
  intro f;induction f with
  |zero=>intro i d;exact bW (aQ<|aaa<|bW<|aFp<|cE<|two n 0 ER)
  |succ f g=>
   intro i d;refine bW<|aQ<|aad<|bW<|W2 (S:=S) ER k fun a c=>?_;rw[j i ER];exact cE<|bI ET<|aQ<|aR ET<|bW<|aac<|g (i+1) ER
 exact cW<|cE<|rG n 0 ER
def aFv (a:Q (.tuple ⟨[]⟩) h):ID 78 [.slice none 0 0,.func (.func 79) #[] #[]] h Q:=
 uL (F:=fun h=>some (.tuple ⟨[]⟩,h)) rfl rfl a
def aKz {ways:Nat} (j:n<=1000) (f:∀i,i<n->S i=[]) (a:Hs G h L) [m:dH (iV G t ways n) L S L']
  (g:∀p d,Hs G d (aG p 0 [.slice none 0 0]::iV G t ways n S::L')->Q (.func (.func 81) #[] #[IE p]) d):ID 38 [IE t] h Q:=by
 obtain⟨b,o,c,a⟩:=Dg<|show Hs G h (iV G t ways n S::L') from m.of a
 refine cW<|bX a fun p h a=>Rj<|eV<|bW<|aB<|aA<|ai t a rfl<|ia (S:=S) j f a ?_
 refine an (b:=p) (o:=0) a fun h a=>ai p a rfl<|aFv<|g _ _ ?_
 have a:=a.cT (aG t 0<|pA ways n b o c) (fJ G 1 212 (some ⟨b,o,none⟩) c n b o)<|dV n fun i=>dL b (o+i*1)<|S i
 exact(xH a).to
end Go.Proofs.Z.C
variable {T:List (Int×Int)} {e:Nat->Value} {a1 a2:EN} {pre:List (Nat×(Int×Int))}
section
attribute [local irreducible] bQ Br sA vD vT F4 pC yQ nJ Uh iZ pV tD sH rQ pG vX Sn Rx R8 Rz R0 Xm mQ qJ kH jX Ao Jw nA Qv Ub B0 Cl Cx Xf xZ uP mK gY dD cQ
namespace Go.Proofs.Z
open Go.Hm Go.At Go.Mc Go.Ct Go.Nt Go.Is
def Gs (l:List (Ln×Nat)):IA:=l.map Prod.fst
def aBy {l:List (Ln×Nat)} {y:Ln×Nat}:Gs l++[y.1]=Gs (l++[y]):=by simp[Gs]
def aCd {l:List (Ln×Nat)}:(Gs l).length=l.length:=by simp[Gs]
def aDy {l:IA}:Gs l.zipIdx=l:=by simp[Gs]
variable {G:Bg} {h:AH} {Cf:bT} {M:cN}
def G0 (a:EM):HP:=sp<|a.map fun d=>mk d ()
def tm:∀{b:EM} {h:AH} {k:AH->Prop},Hs G h (G0 b::L)->(∀f,Hs G f L->k f)->bQ (cQ b h) k
 |[],h,k,a,c=>kS (c h a.dT)
 |d::b,h,k,a,c=>by
  have a:Hs G h (mk d ()::(b.map (fun d=>mk d ())++L)):=a.dT;exact mH a fun h a=>tm (Hs.kC (A:=b.map fun d=>mk d ()) a) c
def aL3 {d1 d2:Nat} {a:EM} (b:Hs G h (mk d2 ()::mk d1 ()::G0 a::L)):Hs G h (G0 (d2::d1::a)::L):=by
 have b:Hs G h (G0 a::mk d2 ()::mk d1 ()::L):=b.to;have b:=b.dT;refine Hs.kC (A:=mk d2 ()::mk d1 ()::a.map fun d=>mk d ()) ?_;refine b.cR ?_;have c:= @List.perm_middle _ (mk d2 ()) (a.map fun d=>mk d ()) (mk d1 ()::L);have f:= @List.perm_middle _ (mk d1 ()) (a.map fun d=>mk d ()) L;exact c.trans<|f.cons _
abbrev shZ:EK:=[.slice none 0 0,.slice none 0 0,.slice none 0 0,.slice none 0 0,.slice none 0 0]
def aG2 {α:Type} {f:Nat->α}:bJ f i (f i)=f:=by
 funext j;unfold bJ;split;rename_i e;rw[e];rfl
def aD5 {mem:Nat->Ln} (hC:Cf.Ok) (g:Ob G 0 fO) (b:Hs G h L) [i:dH (eU G Cf.aF mb Cf) L mem L']
  (f:∀p d,Hs G d (aK3 p ((List.range Cf.aF).map mem)::eU G Cf.aF mb Cf mem::L')->Q (.func (.func 144) #[] #[IE p]) d):ID 43 [IE mb] h Q:=by
 refine cW<|ni hC g b fun a c h b=>cW<|dY (cs:=[.slice a Cf.aF c]) b fun p h b=>f p h ?_
 have e:((List.range Cf.aF).map mem).length=Cf.aF:=EV
 have b:=Hs.tG (A:=fun x:EN×Nat=>sp [aG p 0 [.slice x.1 ((List.range Cf.aF).map mem).length x.2],ls qZ 2 123 x.1 x.2<|(List.range Cf.aF).map mem]) (a,c)<|Hs.Bc<|by rw[e];exact b
 exact b
end Go.Proofs.Z
namespace Go.Proofs.Z.C
open Go.Hm Go.Ct Go.Mc
variable {G:Bg} {h:AH}
abbrev fk (a:EN) (c:Nat) (l:HN):HP:=ls C0 5 215 a c l
variable {S:Nat->HN}
def bh:(List.range i).flatMap S++S i=(List.range<|i+1).flatMap S:=by simp[er]
def N0:((List.range<|i+1).flatMap S).length=((List.range i).flatMap S).length+(S i).length:=by rw[<-bh,bj]
def aFt:∀{i:Nat},i<=n->((List.range i).flatMap S).length<=((List.range n).flatMap S).length:=by
 intro i b;induction n with
 |zero=>
  obtain rfl:i=0:=ER
  exact ba _
 |succ n a=>
  by_cases e:i=n+1;subst e;exact ba _;have:=a ER;rw[N0];omega
theorem yp {b o:Nat} (x:n<=1000) (u:((List.range n).flatMap S).length<=1000) (d:Hs G h (dV n (fun i=>dL b (o+i*1)<|S i)::L))
  (t:∀a c q,Hs G q (fk a c ((List.range n).flatMap S)::dV n (fun i=>dL b (o+i*1)<|S i)::L)->Q (.slice a ((List.range n).flatMap S).length c) q):
  ID 77 [.slice (some ⟨b,o,none⟩) n cap] h Q:=by
 have two:∀(f i:Nat) (a:EN) (c:Nat) (h:AH),i+f=n->Hs G h (fk a c ((List.range i).flatMap S)::dV n (fun i=>dL b (o+i*1)<|S i)::L)->
   Dd 77 6 [] Q [.slice a ((List.range i).flatMap S).length c,.slice (some ⟨b,o,none⟩) n cap,I n,I i] h:=by
  intro f
  induction f with
  |zero=>
   intro i a c h k d
   obtain rfl:i=n:=ER
   exact bW (aQ<|aaa<|t a c h d)
  |succ f p=>
   intro i a c h k d
   have j:i<n:=ER
   have hle:=aFt (S:=S)<|show i+1<=n by omega
   rw[N0] at hle
   have d:=(d.aN<|dV n fun i=>dL b (o+i*1)<|S i).kE i j
   have d:Hs G h (dL b (o+i*1) (S i)::Qr b o n S i::_):=d
   obtain⟨g,c2,d⟩:=sX d
   refine bW<|aQ<|aad<|bW<|dR j<|aD d rfl ?_
   have d:=d.bZ (aG b (o+i*1) [.slice g (S i).length c2])<|dJ 5 215 g c2 ((S i).length,dM<|S i)
   have d:Hs G h (aG b (o+i*1) [.slice g (S i).length c2]::fk g c2 (S i)::_):=d
   refine jO (enc:=C0) (W:=5) (e:=215) (l:=(List.range i).flatMap S) (l2:=S i) (a:=a) (c:=c) (a2:=g) (c2:=c2) (d.bZ (fk a c<|(List.range i).flatMap S)<|fk g c2<|S i) ER fun r s h d=>?_
   rw[bh] at d ⊢
   have d:=d.bZ (aG b (o+i*1) [.slice g (S i).length c2])<|fk g c2<|S i
   have d:Hs G h (aG b (o+i*1) [.slice g (S i).length c2]::dJ 5 215 g c2 ((S i).length,dM<|S i)::_):=d
   have d:=lA b (o+i*1) (S i) d rfl rfl
   have d:=d.bZ (dL b (o+i*1)<|S i)<|Qr b o n S i
   unfold Qr at d
   have d:=d.oG (n:=n) (i:=i) (fun i=>dL b (o+i*1)<|S i) (fun i=>dL b (o+i*1)<|S i) j fun _ _ _=>rfl
   exact aac<|p (i+1) r s h ER d.to
 have rG:∀(f i:Nat),i+f=n->Dd 77 1 [] Q [.slice (some ⟨b,o,none⟩) n cap,I ((List.range i).flatMap S).length,.slice (some ⟨b,o,none⟩) n cap,I n,I i] h:=by
  intro f;induction f with
  |zero=>
   intro i k;obtain rfl:i=n:=ER
   refine bW<|aQ<|aaa<|bW<|aJh (W:=5) (e:=215) rfl ER ER d fun a h d=>cE ?_;have d:Hs G h (fk a 0 []::dV i (fun i=>dL b (o+i*1)<|S i)::L):=d;exact two i 0 a 0 h ER d
  |succ f p=>
   intro i k;have hle:=aFt (S:=S) (show i+1<=n by omega);rw[N0] at hle;refine bW<|aQ<|aad<|bW<|W2 (S:=S) ER d fun a c=>cE<|aac<|aQ<|aaa<|bW<|aac ?_;have:=p (i+1) ER;rw[N0] at this;rw[show(((List.range i).flatMap S).length:Int)+((S i).length:Int)=((((List.range i).flatMap S).length+(S i).length:Nat):Int) by omega];exact this
 exact cW<|cE<|rG n 0 ER
def ky (p:Nat) (l:HN):HP:=xC fun x:EN×Nat=>sp [aG p 0 [.slice x.1 l.length x.2],fk x.1 x.2 l]
theorem aO1 {ways:Nat} (z:n<=8) (F:ways<=4) (q:∀i,qA ways<|S i) (D:Pl n S) (d:Hs G h L) [m:dH (iV G t ways n) L S L']
  (r:∀p k,Hs G k (ky p (Dq n S)::iV G t ways n S::L')->Q (.func (.func 81) #[] #[IE p]) k):ID 38 [IE t] h Q:=by
 by_cases H:((List.range n).flatMap S).length=0
 .obtain⟨u,y⟩:=aHg H;refine aKz (t:=t) (ways:=ways) (n:=n) (S:=S) ER y d fun p h d=>r p h ?_;rw[u];have d:=(oI (enc:=C0) (e:=215) d).bZ (aG p 0 [.slice none 0 0])<|fk none 0 [];exact Hs.tG (A:=fun x:EN×Nat=>sp [aG p 0 [.slice x.1 ([]:HN).length x.2],fk x.1 x.2 []]) (none,0) d.Bc
 have s:=Cb q n
 have B:n*ways<=8*4:=DJ z F
 obtain⟨b,o,g,d⟩:=Dg<|show Hs G h (iV G t ways n S::L') from m.of d
 refine cW<|bX d fun p h d=>Rj<|eV<|bW<|aB<|aA<|ai t d rfl ?_
 refine yp ER ER (d.aN<|dV n fun i=>dL b (o+i*1)<|S i) fun a c h d=>?_
 refine an (b:=p) (o:=0) d fun h d=>ai p d rfl ?_
 have d:Hs G h (dJ 5 215 a c (((List.range n).flatMap S).length,dM<|(List.range n).flatMap S)::_):=d.aN<|fk a c<|(List.range n).flatMap S
 obtain⟨_,f,j,I,rfl,_⟩:=aEs d ER
 refine aJk (b:=f) (o:=j) (c:=c) (n:=((List.range n).flatMap S).length) (l:=(List.range n).flatMap S) (e:=215) rfl rfl ER ER (Yp<|Tl q D n) d fun h d=>r p h ?_
 have d:Hs G h (fk (some ⟨f,j,none⟩) c (Dq n S)::_):=d
 have d:=d.cT (aG t 0<|pA ways n b o g) (fJ G 1 212 (some ⟨b,o,none⟩) g n b o)<|dV n fun i=>dL b (o+i*1)<|S i
 have d:=xH d
 have d:=(d.bZ (aG p 0 [.slice (some ⟨f,j,none⟩) ((List.range n).flatMap S).length c])<|fk (some ⟨f,j,none⟩) c<|Dq n S).Bc
 rw[<-Q7] at d
 have d:=Hs.tG (A:=fun x:EN×Nat=>sp [aG p 0 [.slice x.1 (Dq n S).length x.2],fk x.1 x.2<|Dq n S]) (some ⟨f,j,none⟩,c) d
 have d:Hs G h (ky p (Dq n S)::_):=d
 exact d.to
def aS6 {l:HN} (hb:l.length<=1000):lh Pr K G 81 [] [IE q] (ky q l) (l.map fun t=>[I t.1,.agg ⟨t.2.enc⟩]):=by
 intro k J y L h Q d D p r;obtain⟨⟨a,c⟩,d⟩:=d.uI;have d:=d.yO;have g:∀{h:AH} {M:HL},Hs G h (aG q 0 [.slice a l.length c]::fk a c l::M)->Hs G h (ky q l::M):=fun d=>Hs.tG (A:=fun x:EN×Nat=>sp [aG q 0 [.slice x.1 l.length x.2],fk x.1 x.2 l]) (a,c) d.Bc;refine cW<|ai q d rfl<|cE ?_;have loop:∀(f i:Nat) (h:AH),i+f=l.length->Hs G h (aG q 0 [.slice a l.length c]::fk a c l::k ((l.drop i).map fun t=>[I t.1,.agg ⟨t.2.enc⟩])::L)->Dd 81 1 [] Q [y,.slice a l.length c,I l.length,I i] h:=by
  intro f;induction f with
  |zero=>
   intro i h u d;rw[eg ER] at d;exact bW (aQ<|aaa<|p _ _<|g d)
  |succ f F=>
   intro i h u d;obtain⟨x,B,s⟩:=oY (l:=l) (i:=i) ER;rw[s,kx] at d;refine bW (aQ<|aad<|bW<|vS (l:=l) (a:=a) (c:=c) (enc:=C0) (e:=215) d ET ER (by rw[aP];exact B)<|bX d fun p3 h d=>an (b:=p3) d fun h d=>aA<|ai p3 d rfl<|aA<|am p3 d (l:=x.2.enc) rfl rfl ?_);refine(D _ _ h _<|d.aN<|k ([I x.1,.agg ⟨x.2.enc⟩]::((l.drop<|i+1).map fun t=>[I t.1,.agg ⟨t.2.enc⟩]))).mono fun v n z=>?_;rcases z with⟨rfl,j⟩|⟨rfl,j⟩;exact cG<|cF<|bW<|aac<|F (i+1) n ER j.to;exact cG<|eV<|r _ _<|g j.to
 exact loop l.length 0 h ER (by rw[kt];exact d)
end Go.Proofs.Z.C
namespace Go.Proofs.Z
open Go.Hm Go.At Go.Mc Go.Ct Go.Nt Go.Is
section
abbrev A5 (a1:EN) (n1 a:Nat) (a2:EN) (n2 c2:Nat) (a3:EN) (b c3:Nat) (a4:EN) (n4 c4:Nat) (a5:EN) (n5 c5:Nat):EK:=[.slice a1 n1 a,.slice a2 n2 c2,.slice a3 b c3,.slice a4 n4 c4,.slice a5 n5 c5]
abbrev Tu (a:EN) (c:Nat) (l:List (Nat×Th)):HP:=ls cpE 6 131 a c l
abbrev gn (a:EN) (c:Nat) (l:List (Nat×(Int×Int))):HP:=ls knE 3 135 a c l
variable {G:Bg} {h:AH} {Cf:bT} {M:cN}
abbrev caX (p3 a i d l:Nat) (e:Nat->Value) (pre:List (Nat×Th)) (a2:EN) (n2 c2:Nat) (done:HN):HP:=xC fun z:EN×Nat=>sp [iI Pr 15 (iM 62666) 123 e d l (.ready,none),aG p3 0<|A5 z.1 (pre++Ce i done).length z.2 a2 n2 c2 none 0 0 none 0 0 none 0 0,aG a 0 [I i],Tu z.1 z.2<|pre++Ce i done]
abbrev chX (p3 b i d l:Nat) (e:Nat->Value) (pre:List (Nat×(Int×Int))) (a1:EN) (n1 a:Nat) (done:List (Int×Int)):HP:=xC fun z:EN×Nat=>sp [iI Pr 15 (iM 62670) 123 e d l (.ready,none),aG p3 0<|A5 a1 n1 a z.1 (pre++Ce i done).length z.2 none 0 0 none 0 0 none 0 0,aG b 0 [I i],gn z.1 z.2<|pre++Ce i done]
theorem aE0 {r g d l j n2 c2:Nat} {T:HN} {pre:List (Nat×Th)} {v5 v6:Value} {R:Value->AH->Prop} (J:T.length<=32) (B:pre.length<=200)
  (D:List.map e [3,4,36,37]=[IE p3,IE g,v5,v6])
  (f:Hs G h (C.ky r T::iI Pr 15 (iM 62666) 123 e d l (.ready,none)::aG p3 0 (A5 a1 pre.length j a2 n2 c2 none 0 0 none 0 0 none 0 0)::aG g 0 [I i]::Tu a1 j pre::L))
  (H:∀v a c t,Hs G t (iI Pr 15 (iM 62666) 123 e d l (.ready,none)::aG p3 0 (A5 a (pre++Ce i T).length c a2 n2 c2 none 0 0 none 0 0 none 0 0)::aG g 0 [I i]::Tu a c (pre++Ce i T)::L)->R v t):
  ID 81 [.func (.yield l) #[] #[],IE r] h R:=by
 have f:Hs G h (C.ky r T::caX p3 g i d l e pre a2 n2 c2 []::L):=by
  have f:=f.jQ (iI Pr 15 (iM 62666) 123 e d l (.ready,none)) (aG p3 0<|A5 a1 pre.length j a2 n2 c2 none 0 0 none 0 0 none 0 0) (aG g 0 [I i])<|Tu a1 j pre;rw[show pre=pre++Ce i ([]:HN) by simp[Ce]] at f;have f:=Hs.tG (A:=fun z:EN×Nat=>sp [iI Pr 15 (iM 62666) 123 e d l (.ready,none),aG p3 0<|A5 z.1 (pre++Ce i ([]:HN)).length z.2 a2 n2 c2 none 0 0 none 0 0 none 0 0,aG g 0 [I i],Tu z.1 z.2<|pre++Ce i ([]:HN)]) (a1,j) f.Jv;exact f.to
 refine(C.aS6 (q:=r) (l:=T) ER).C2 (X:=caX p3 g i d l e pre a2 n2 c2) (Z:=fun _ _=>xG False) f ?_ ?_ ?_
 .intro done y h N u f;have s:=u.length_le;rw[bj,kd] at s;obtain⟨⟨a,c⟩,f⟩:=f.uI;have f:=f.xe;refine rW (qC f) D<|bX f fun q h f=>an (b:=q) f fun h f=>gD f fun h f=>aA<|ai p3 f rfl<|ai g f rfl<|aA<|ai q f rfl<|aA<|ai q f rfl<|aA<|am q f (l:=qZ y.2.d) rfl rfl ?_;refine aM (c:=cpE (i,y)) rfl<|aM (c:=cpE (i,y)) rfl<|dC (W:=6) (n:=1) (c:=1) f rfl rfl rfl fun a3 h f=>?_;have f:=nH (enc:=cpE) (x:=((i,y):Nat×Th)) f;refine jO (bytes:=48) (e:=131) (enc:=cpE) (l:=pre++Ce i done) (l2:=[(i,y)]) (a:=a) (c:=c) (a2:=some a3) (c2:=1) (f.bZ (Tu a c<|pre++Ce i done)<|Tu (some a3) 1 [(i,y)]) (by rw[bj,N5,kd];omega) fun k p h f=>?_;rw[dx,<-th] at f ⊢;refine aA<|ax (b:=p3) (o:=0) f fun h f=>?_;have f:Hs G h (aG p3 0 (A5 k (pre++Ce i (done++[y])).length p a2 n2 c2 none 0 0 none 0 0 none 0 0)::_):=f;refine iE f fun h f=> .inl ⟨rfl,?_⟩;have f:=(f.jQ (iI Pr 15 (iM 62666) 123 e d l (.ready,none)) (aG p3 0<|A5 k (pre++Ce i (done++[y])).length p a2 n2 c2 none 0 0 none 0 0 none 0 0) (aG g 0 [I i])<|Tu k p<|pre++Ce i (done++[y])).Jv;exact(Hs.tG (A:=fun z:EN×Nat=>sp [iI Pr 15 (iM 62666) 123 e d l (.ready,none),aG p3 0<|A5 z.1 (pre++Ce i (done++[y])).length z.2 a2 n2 c2 none 0 0 none 0 0 none 0 0,aG g 0 [I i],Tu z.1 z.2<|pre++Ce i (done++[y])]) (k,p) f).to
 .intro v h f;obtain⟨⟨a,c⟩,f⟩:=(f.aN<|caX p3 g i d l e pre a2 n2 c2 T).uI;exact H v a c h f.xe.to
 .intro done y v h u f;obtain⟨F,f⟩:=(f.aN<|xG False).X6;exact F.elim
theorem aF2 {g d l n1 j c2:Nat} {v5 v6:Value} {R:Value->AH->Prop} (H:T.length<=100) (u:pre.length<=1000)
  (B:List.map e [3,4,60,61]=[IE p3,IE g,v5,v6])
  (f:Hs G h (Gp q T::iI Pr 15 (iM 62670) 123 e d l (.ready,none)::aG p3 0 (A5 a1 n1 j a2 pre.length c2 none 0 0 none 0 0 none 0 0)::aG g 0 [I i]::gn a2 c2 pre::L))
  (F:∀v a c s,Hs G s (iI Pr 15 (iM 62670) 123 e d l (.ready,none)::aG p3 0 (A5 a1 n1 j a (pre++Ce i T).length c none 0 0 none 0 0 none 0 0)::aG g 0 [I i]::gn a c (pre++Ce i T)::L)->R v s):
  ID 83 [.func (.yield l) #[] #[],IE q] h R:=by
 have f:Hs G h (Gp q T::chX p3 g i d l e pre a1 n1 j []::L):=by
  have f:=f.jQ (iI Pr 15 (iM 62670) 123 e d l (.ready,none)) (aG p3 0<|A5 a1 n1 j a2 pre.length c2 none 0 0 none 0 0 none 0 0) (aG g 0 [I i])<|gn a2 c2 pre;rw[show pre=pre++Ce i ([]:List (Int×Int)) by simp[Ce]] at f;have f:=Hs.tG (A:=fun z:EN×Nat=>sp [iI Pr 15 (iM 62670) 123 e d l (.ready,none),aG p3 0<|A5 a1 n1 j z.1 (pre++Ce i ([]:List (Int×Int))).length z.2 none 0 0 none 0 0 none 0 0,aG g 0 [I i],gn z.1 z.2<|pre++Ce i ([]:List (Int×Int))]) (a2,c2) f.Jv;exact f.to
 refine(sf (q:=q) (l:=T) ER).C2 (X:=chX p3 g i d l e pre a1 n1 j) (Z:=fun _ _=>xG False) f ?_ ?_ ?_
 .intro done y h N t f;have r:=t.length_le;rw[bj,kd] at r;obtain⟨⟨a,c⟩,f⟩:=f.uI;have f:=f.xe;refine rW (qC f) B<|gD f fun h f=>aA<|ai p3 f rfl<|ai g f rfl ?_;refine aM (c:=knE (i,y)) rfl<|aM (c:=knE (i,y)) rfl<|dC (W:=3) (n:=1) (c:=1) f rfl rfl rfl fun a3 h f=>?_;have f:=nH (enc:=knE) (x:=((i,y):Nat×(Int×Int))) f;refine jO (bytes:=24) (e:=135) (enc:=knE) (l:=pre++Ce i done) (l2:=[(i,y)]) (a:=a) (c:=c) (a2:=some a3) (c2:=1) (f.bZ (gn a c<|pre++Ce i done)<|gn (some a3) 1 [(i,y)]) (by rw[bj,N5,kd];omega) fun k p h f=>?_;rw[dx,<-th] at f ⊢;refine aA<|ax (b:=p3) (o:=0) f fun h f=>?_;have f:Hs G h (aG p3 0 (A5 a1 n1 j k (pre++Ce i (done++[y])).length p none 0 0 none 0 0 none 0 0)::_):=f;refine iE f fun h f=> .inl ⟨rfl,?_⟩;have f:=(f.jQ (iI Pr 15 (iM 62670) 123 e d l (.ready,none)) (aG p3 0<|A5 a1 n1 j k (pre++Ce i (done++[y])).length p none 0 0 none 0 0 none 0 0) (aG g 0 [I i])<|gn k p<|pre++Ce i (done++[y])).Jv;exact(Hs.tG (A:=fun z:EN×Nat=>sp [iI Pr 15 (iM 62670) 123 e d l (.ready,none),aG p3 0<|A5 a1 n1 j z.1 (pre++Ce i (done++[y])).length z.2 none 0 0 none 0 0 none 0 0,aG g 0 [I i],gn z.1 z.2<|pre++Ce i (done++[y])]) (k,p) f).to
 .intro v h f;obtain⟨⟨a,c⟩,f⟩:=(f.aN<|chX p3 g i d l e pre a1 n1 j T).uI;exact F v a c h f.xe.to
 .intro done y v h t f;obtain⟨D,f⟩:=(f.aN<|xG False).X6;exact D.elim
def qb {x:MN} {p1:Nat} {t36 t37 t60 t61 t115:Value} (hC:Cf.Ok) (d:∀i:Nat,(i:Int)<Cf.aE->kK Cf (M.aJ i)) (g:∀i:Nat,(i:Int)<Cf.aE->(M.aU i).cC.length<=100)
  (hk:∀a1 c a2 c2 u J,Hs G J (Tu a1 c (qB Cf.bL.toNat M.aJ Cf.aE.toNat)::gn a2 c2 (tL M.aU Cf.aE.toNat)::G0 u::jG G Cf m x M::aG p1 0 shZ::aG p3 0 (A5 a1 (qB Cf.bL.toNat M.aJ Cf.aE.toNat).length c a2 (tL M.aU Cf.aE.toNat).length c2 none 0 0 none 0 0 none 0 0)::L)->Dd 15 4 u Q [IE m,IE p1,IE p3,t115] J):
  ∀(f i:Nat) (a1:EN) (c:Nat) (a2:EN) (c2:Nat) (u:EM) (h:AH),i+f=Cf.aE.toNat->Hs G h (Tu a1 c (qB Cf.bL.toNat M.aJ i)::gn a2 c2 (tL M.aU i)::G0 u::jG G Cf m x M::aG p1 0 shZ::aG p3 0 (A5 a1 (qB Cf.bL.toNat M.aJ i).length c a2 (tL M.aU i).length c2 none 0 0 none 0 0 none 0 0)::L)->
   Dd 15 2 u Q [IE m,IE p1,IE p3,I Cf.aE.toNat,I i,t36,t37,t60,t61,t115] h:=by
 have hc:=hC.1
 have y:Cf.bL.toNat<=8/\Cf.ways.toNat<=4:=by have:=hC;unfold bT.Ok at this;omega
 have O:∀i:Nat,(i:Int)<Cf.aE->(Dq Cf.bL.toNat (M.aJ i).S).length<=32:=fun i F=>by
  rw[Q7];have h1:=Cb (d i F).bL Cf.bL.toNat;have h2:=DJ y.1 y.2;omega
 intro f
 induction f with
 |zero=>
  intro i a1 c a2 c2 u h F a
  obtain rfl:i=Cf.aE.toNat:=ER
  exact bW (aQ<|aaa<|hk a1 c a2 c2 u h a)
 |succ f ih=>
  intro i a1 c a2 c2 u h F a
  have r:(i:Int)<Cf.aE:=ER
  have V:=Ke (n:=Cf.bL.toNat) (X:=M.aJ) (b:=32) (k:=i) fun j hj=>O j ER
  have Y:=To (X:=M.aU) (b:=100) (k:=i) fun j hj=>g j ER
  obtain⟨H,a⟩:=gT<|a.aN<|jG G Cf m x M
  have z:i<x.lk.length:=by have:=H.2.1;omega
  have A:i<x.lq.length:=by have:=H.2.2;omega
  refine bW<|aQ<|aad<|bW<|bX a fun B h a=>an (b:=B) a fun h a=>bD a fun rr h a=>?_
  refine aB<|aA<|ai m a rfl<|ai B a rfl<|Gv a z ?_
  have a:=gC (R:=rX G Cf) (l:=x.lk) (s:=M.aJ) z<|a.aN<|qF (rX G Cf) x.lk M.aJ
  obtain⟨t,a⟩:=C.mM a
  refine aB<|aA<|aD (b:=x.lk.getD i 0) (o:=0) a rfl ?_
  refine C.aO1 (t:=t) (ways:=Cf.ways.toNat) (n:=Cf.bL.toNat) (S:=(M.aJ i).S) y.1 y.2 (d i r).bL (d i r).pl a fun pa h a=>?_
  refine jM a fun d1 h a=>?_
  intro e he
  refine kY a fun l1 h a=>pX rfl ?_
  have a:=a.jQ (iI Pr 15 (iM 62666) 123 e d1 l1 (.ready,none)) (aG p3 0<|A5 a1 (qB Cf.bL.toNat M.aJ i).length c a2 (tL M.aU i).length c2 none 0 0 none 0 0 none 0 0) (aG B 0 [I i])<|Tu a1 c<|qB Cf.bL.toNat M.aJ i
  have a:=a.aN<|C.ky pa<|Dq Cf.bL.toNat (M.aJ i).S
  refine aE0 (T:=Dq Cf.bL.toNat (M.aJ i).S) (pre:=qB Cf.bL.toNat M.aJ i) (O i r) ER he a fun v a1 c h a=>?_
  rw[<-N9] at a
  refine kU a fun h a=>kW ?_
  have a:=C.dG (x.lk.getD i 0) t Cf i (M.aJ i) a rfl rfl
  have a:=Bm (G:=G) (Cf:=Cf) (l:=x.lk) (s:=M.aJ) (i:=i) (t:=M.aJ i) z a
  rw[aG2] at a
  refine bD a fun r2 h a=>aB<|aA<|ai m a rfl<|ai B a rfl<|Hf a A ?_
  have a:=gC (R:=rV Cf) (l:=x.lq) (s:=M.aU) A<|a.aN<|qF (rV Cf) x.lq M.aU
  refine Um (C:=Cf) (p:=x.lq.getD i 0) (s:=M.aU i) (g i r) a fun q h a=>jM a fun d2 h a=>?_
  intro U D
  refine kY a fun l2 h a=>pX rfl ?_
  have a:=a.jQ (iI Pr 15 (iM 62670) 123 U d2 l2 (.ready,none)) (aG p3 0<|A5 a1 (qB Cf.bL.toNat M.aJ<|i+1).length c a2 (tL M.aU i).length c2 none 0 0 none 0 0 none 0 0) (aG B 0 [I i])<|gn a2 c2<|tL M.aU i
  have a:=a.aN<|Gp q (M.aU i).cC
  refine aF2 (T:=(M.aU i).cC) (pre:=tL M.aU i) (g i r) ER D a fun v a2 c2 h a=>?_
  rw[<-O2] at a
  refine kU a fun h a=>kW<|aac ?_
  have a:=vY (G:=G) (Cf:=Cf) (l:=x.lq) (s:=M.aU) (i:=i) (t:=M.aU i) A a
  rw[aG2] at a
  have a:=jR (G:=G) (Cf:=Cf) (m:=m) (x:=x) M H a
  have a:=a.cT (mk d2 ()) (mk d1 ())<|G0 u
  exact ih (i+1) a1 c a2 c2 (d2::d1::u) h ER (aL3 a).to
end
def Ju (F:fI) (n:Nat):HM:=(List.range n).flatMap<|dF F
def fx {F:fI}:Ju F (n+1)=Ju F n++dF F n:=by simp[Ju,er]
def Xl {F:fI} (a:∀c w,(F c w).length<=500):∀n,(Ju F n).length<=500*n
 |0=>by simp[Ju]
 |n+1=>by
  rw[fx,bj];have:=Xl a n;have:(dF F n).length<=500:=a _ _;omega
abbrev X9 (a:EN) (c:Nat) (l:HM):HP:=ls aI.enc 9 146 a c l
variable {G:Bg} {h:AH} {C:bT}
abbrev cgX (p2 q l0 d0 d l:Nat) (a e:Nat->Value) (ql:EM) (F:fI) (n:Nat):HP:=xC fun z:EN×Nat=>sp [iI Pr 86 (iM 54) 13 e d l (.ready,none),aG p2 0 [yF l0],qF E7 ql<|dF F,iI Pr 84 (iM 26) 13 a d0 l0 (.ready,none),aG q 0 [.slice z.1 (Ju F n).length z.2],X9 z.1 z.2<|Ju F n]
abbrev cgY (p2 q l0 d0 d l l2:Nat) (b e e2:Nat->Value) (a:HM):HP:=xC fun z:EN×Nat=>sp [iI Pr 86 (iM 874) 13 e2 d l2 (.ready,none),iI Pr 86 (iM 54) 13 e d l (.busy,none),aG p2 0 [yF l0],iI Pr 84 (iM 26) 13 b d0 l0 (.ready,none),aG q 0 [.slice z.1 (a).length z.2],X9 z.1 z.2<|a]
def y0 {l0 d0 d l l2 y n:Nat} {i e2:Nat->Value} {F:fI} {T pre:HM} {I u8:Value} {R:Value->AH->Prop} (J:T.length<=500) (B:pre.length<=9000)
  (r:List.map i [2,7]=[IE q,I]) (s:List.map e2 [2,8]=[IE p2,u8])
  (f:Hs G h (vc y T::cgY p2 q l0 d0 d l l2 i e e2 pre::L)) (H:∀v t,Hs G t (vc y T::cgY p2 q l0 d0 d l l2 i e e2 (pre++T)::L)->R v t):
  ID 328 [.func (.yield l2) #[] #[],IE y] h R:=by
 rw[show pre=pre++[] by simp] at f
 refine(aNl (q:=y) (l:=T) ER).C2 (X:=fun g=>cgY p2 q l0 d0 d l l2 i e e2<|pre++g) (Z:=fun _ _=>xG False) f ?_ ?_ ?_
 .intro g x h N u f;have p:=u.length_le;rw[bj,kd] at p;obtain⟨⟨a,c⟩,f⟩:=f.uI;have f:=f.un6;refine rW (qC f) s<|bX f fun p1 h f=>an (b:=p1) f fun h f=>gD f fun h f=>ai p2 f rfl<|am p1 f (l:=x.enc) rfl rfl ?_;refine rW (qC (l:=l0) f) r<|bX f fun p3 h f=>an (b:=p3) f fun h f=>gD f fun h f=>ai q f rfl<|am p3 f (l:=x.enc) rfl rfl<|aM (c:=x.enc) rfl<|dC (W:=9) (n:=1) (c:=1) f rfl rfl rfl fun a3 h f=>?_;have f:=nH (enc:=aI.enc) (x:=x) f;refine jO (bytes:=72) (e:=146) (enc:=aI.enc) (l:=pre++g) (l2:=[x]) (a:=a) (c:=c) (a2:=some a3) (c2:=1) (f.bZ (X9 a c<|pre++g)<|X9 (some a3) 1 [x]) (by rw[bj,kd];omega) fun j k h f=>?_;rw[dx] at f ⊢;refine an (b:=q) (o:=0) f fun h f=>iE (l:=l0) f fun h f=>cG<|cF<|iE (l:=l2) f fun h f=> .inl ⟨rfl,?_⟩;have f:=f.jQ (iI Pr 84 (iM 26) 13 i d0 l0 (.ready,none)) (aG q 0 [.slice j (pre++(g++[x])).length k]) (X9 j k<|pre++(g++[x]))<|aG p2 0 [yF l0];have f:=f.cT (iI Pr 86 (iM 874) 13 e2 d l2 (.ready,none)) (iI Pr 86 (iM 54) 13 e d l (.busy,none))<|aG p2 0 [yF l0];have f:=Hs.tG (A:=fun z:EN×Nat=>sp [iI Pr 86 (iM 874) 13 e2 d l2 (.ready,none),iI Pr 86 (iM 54) 13 e d l (.busy,none),aG p2 0 [yF l0],iI Pr 84 (iM 26) 13 i d0 l0 (.ready,none),aG q 0 [.slice z.1 (pre++(g++[x])).length z.2],X9 z.1 z.2<|pre++(g++[x])]) (j,k) f.pk6;exact f.to
 .intro v h f;exact H v h f
 .intro done y v h u f;obtain⟨D,f⟩:=(f.aN<|xG False).X6;exact D.elim
theorem aK1 {z p:Nat} {ql:EM} {F:fI} (β:ql.length<=16) (B:∀c w,(F c w).length<=500) (f:Hs G h (aG p 0 [rwF z]::Lf z ql::qF E7 ql (dF F)::L))
  (hk:∀a c I,Hs G I (X9 a c (Ju F ql.length)::L)->Q (.slice a (Ju F ql.length).length c) I):ID 41 [.func (.func 86) #[] #[IE p]] h Q:=by
 have α:=Xl B ql.length
 refine cW<|cW<|dY (cs:=[.slice none 0 0]) f fun q h f=>jM f fun d0 h f=>?_
 intro k D
 refine kY f fun l0 h f=>pX rfl ?_
 refine cW<|dY (cs:=[yF l0]) f fun g h f=>ai p f rfl<|jM f fun d h f=>?_
 intro e he
 refine kY f fun l h f=>pX rfl ?_
 have f:=oI (enc:=aI.enc) (e:=146) f
 have f:Hs G h (Lf z ql::cgX g q l0 d0 d l k e ql F 0::mk d ()::mk d0 ()::L):=by
  have f:=f.cT (iI Pr 84 (iM 26) 13 k d0 l0 (.ready,none)) (aG q 0 [.slice none 0 0])<|X9 none 0 [];have f:=f.cT (iI Pr 86 (iM 54) 13 e d l (.ready,none)) (aG g 0 [yF l0])<|qF E7 ql<|dF F;have f:=Hs.tG (A:=fun z:EN×Nat=>sp [iI Pr 86 (iM 54) 13 e d l (.ready,none),aG g 0 [yF l0],qF E7 ql<|dF F,iI Pr 84 (iM 26) 13 k d0 l0 (.ready,none),aG q 0 [.slice z.1 (Ju F 0).length z.2],X9 z.1 z.2<|Ju F 0]) (none,0) f.pk6;exact f.to
 refine(aBr (z:=z) (l:=ql) ER).C2 (X:=fun done=>cgX g q l0 d0 d l k e ql F done.length) (Z:=fun _ _=>xG False) f ?_ ?_ ?_
 .intro done y h N J f;obtain⟨⟨a,c⟩,f⟩:=f.uI;have f:=f.un6;obtain⟨r,U⟩:=dk J;have O:=Xl B done.length;have f:=gC (R:=E7) (l:=ql) (s:=dF F) r<|f.aN<|qF E7 ql<|dF F;rw[U] at f;refine rW (qC (l:=l) f) he<|gD (l:=l) f fun h f=>S4 (l:=l) f ?_;intro u H;refine kY f fun t h f=>pX rfl ?_;have f:Hs G h (vc y (dF F done.length)::cgY g q l0 d0 d l t k e u (Ju F done.length)::Fs E7 ql (dF F) done.length::N):=by
   have f:=f.jQ (iI Pr 84 (iM 26) 13 k d0 l0 (.ready,none)) (aG q 0 [.slice a (Ju F done.length).length c]) (X9 a c<|Ju F done.length)<|aG g 0 [yF l0];have f:=f.cT (iI Pr 86 (iM 874) 13 u d t (.ready,none)) (iI Pr 86 (iM 54) 13 e d l (.busy,none))<|aG g 0 [yF l0];have f:=Hs.tG (A:=fun z:EN×Nat=>sp [iI Pr 86 (iM 874) 13 u d t (.ready,none),iI Pr 86 (iM 54) 13 e d l (.busy,none),aG g 0 [yF l0],iI Pr 84 (iM 26) 13 k d0 l0 (.ready,none),aG q 0 [.slice z.1 (Ju F done.length).length z.2],X9 z.1 z.2<|Ju F done.length]) (a,c) f.pk6;exact f.to
  refine y0 (n:=0) (F:=F) (T:=dF F done.length) (pre:=Ju F done.length) (B _ _) ER D H f fun v h f=>?_
  rw[<-fx] at f
  obtain⟨⟨a,c⟩,f⟩:=(f.aN<|cgY g q l0 d0 d l t k e u<|Ju F<|done.length+1).uI
  have f:=f.un6
  refine kU (l:=t) f fun h f=>kW<|iE (l:=l) f fun h f=> .inl ⟨rfl,?_⟩
  have Y:vc y (dF F done.length)=E7 done.length (ql.getD done.length 0) (dF F done.length):=by rw[U]
  rw[Y] at f
  have f:=Az (R:=E7) (l:=ql) (s:=dF F) (i:=done.length) (x:=dF F done.length) r<|f.bZ (E7 done.length (ql.getD done.length 0)<|dF F done.length)<|Fs E7 ql (dF F) done.length
  have V:(fun j=>if j=done.length then dF F done.length else dF F j)=dF F:=GX
  rw[V] at f
  have f:=f.cT (iI Pr 84 (iM 26) 13 k d0 l0 (.ready,none)) (aG q 0 [.slice a (Ju F<|done.length+1).length c])<|X9 a c<|Ju F<|done.length+1
  have f:=f.cT (iI Pr 86 (iM 54) 13 e d l (.ready,none)) (aG g 0 [yF l0])<|qF E7 ql<|dF F
  have f:=Hs.tG (A:=fun z:EN×Nat=>sp [iI Pr 86 (iM 54) 13 e d l (.ready,none),aG g 0 [yF l0],qF E7 ql<|dF F,iI Pr 84 (iM 26) 13 k d0 l0 (.ready,none),aG q 0 [.slice z.1 (Ju F<|done.length+1).length z.2],X9 z.1 z.2<|Ju F<|done.length+1]) (a,c) f.pk6
  rw[bj,kd]
  exact f.to
 .intro v h f;obtain⟨⟨a,c⟩,f⟩:=(f.aN<|cgX g q l0 d0 d l k e ql F ql.length).uI;have f:=f.un6;refine kU (l:=l) f fun h f=>kW<|mH (f.aN<|mk d ()) fun h f=>kS ?_;exact kU (l:=l0) f fun h f=>kW<|ai q f rfl<|mH (f.aN<|mk d0 ()) fun h f=>kS<|hk a c h f.to
 .intro done y v h J f;obtain⟨hf,f⟩:=(f.aN<|xG False).X6;exact hf.elim
end Go.Proofs.Z
end
