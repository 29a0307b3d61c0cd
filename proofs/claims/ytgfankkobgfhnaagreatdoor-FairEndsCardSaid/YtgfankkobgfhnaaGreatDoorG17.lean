/- A part of the proof. -/
import Derived.Test.YtgfankkobgfhnaaGreatDoorG16
import Derived.Test.YtgfankkobgfhnaaGreatDoorG14
import Derived.Test.YtgfankkobgfhnaaGreatDoorG13
import Derived.Test.YtgfankkobgfhnaaGreatDoorG8
import Derived.Test.YtgfankkobgfhnaaGreatDoorG9
set_option linter.all false
set_option maxRecDepth 100000
open Go Go.Ab
variable {N N' c g i k l w:Nat}
namespace Go.Mc
open Go.Hm Go.At Go.Is Go.Ct Go.Nt Go.Pc
variable {C:bQ} {M M':bR} {V V':Nat->Ln} {r:Mc.mS} {S:Nat->aT} {d:Do} {F:eN} {p:aG->Bool} {x:aG}
section
variable {n:aG} {r:bP} {m:Ln} {L L':IA} {a:vR}
theorem fK (f:dD C N M) (i:n∈M.cB c w):(w=0/\(n.kind=1\/n.kind=2\/n.kind=3\/n.kind=6))\/(w=1/\(n.kind=4\/n.kind=5\/n.kind=7))\/(w=2/\(n.kind=8\/n.kind=9\/n.kind=10\/n.kind=12))\/(w=3/\(n.kind=11\/n.kind=13)):=by
 have h:=f.cB.yI c w n i;have g:=(fI h.1.gE).1;rw[Nj] at g;have b:=h.2.2;rw[cN] at b;have:n.kind=1\/n.kind=2\/n.kind=3\/n.kind=4\/n.kind=5\/n.kind=6\/n.kind=7\/n.kind=8\/n.kind=9\/n.kind=10\/n.kind=11\/n.kind=12\/n.kind=13:=FA
 rcases this with e|e|e|e|e|e|e|e|e|e|e|e|e<;>rw[e] at b;have b:0=w:=b;omega;have b:0=w:=b;omega;have b:0=w:=b;omega;have b:1=w:=b;omega;have b:1=w:=b;omega;have b:0=w:=b;omega;have b:1=w:=b;omega;have b:2=w:=b;omega;have b:2=w:=b;omega;have b:2=w:=b;omega;have b:3=w:=b;omega;have b:2=w:=b;omega;have b:3=w:=b;omega
theorem I2 (b:dD C N M) (f:n∈M.cB c w):(c:Int)<C.aB/\w<4:=by
 have h:=b.cB.yI c w n f;have g:=fI h.1.gE;grind[xP]
theorem aIb:(F.set c w []).set c w (F c w)=F:=by
 grind[eN.set]
theorem Xf (hc:(c:Int)<C.aB) (b:w<4):(dL C F).Perm (F c w++dL C (F.set c w [])):=by
 have h:=U6 (F:=F.set c w []) (l:=F c w) (l':=F c w) hc b (by
  simp_all[eN.set,bA1])
 grind[aIb]
def aMb (hc:(c:Int)<C.aB) (b:w<4):(F c w).countP p<=(dL C F).countP p:=by
 rw[(Xf hc b).countP_eq,u3];omega
theorem Si {v:Nat} (hc:(c:Int)<C.aB) (g:w<4) (f:v<4) (b:w≠v):(F c w).countP p+(F c v).countP p<=(dL C F).countP p:=by
 rw[(Xf hc g).countP_eq,u3];have h:=aMb (F:=F.set c w []) (p:=p) hc f;have e:(F.set c w []) c v=F c v:=by rw[eN.set];rw[aaa]
 grind
def Vh (x:aG):Bool:=decide<|x.kind=6\/x.kind=12
theorem Qp (g:dD C N M) (i:RY C M V) (hc:(c:Int)<C.aB):(M.cB c 0).countP Vh+(M.cB c 2).countP Vh<=(M.aU c).dP.toNat:=by
 have h:=Si (F:=M.cB) (w:=0) (v:=2) (p:=fun n=>decide<|n.core=(c:Int)/\(n.kind=6\/n.kind=12)) hc FA FA FA;have f:=i.gE.cw c hc;rw[Mc.cw] at f;have e:∀w,(M.cB c w).countP Vh=(M.cB c w).countP (fun n=>decide<|n.core=(c:Int)/\(n.kind=6\/n.kind=12)):=fun w=>List.countP_congr fun x j=>by
  have b:=g.cB.yI c w x j;have l:=(fI b.1.gE).2;rw[Vh];grind
 grind
def Kk:∀{l:IA},(∀x∈l,p x=true)->l.countP p=l.length:=fun {_} h=>List.countP_eq_length.2 h
def J0 (hC:C.Ok) (i:dD C N M) (q:RY C M V) (g:En C M) {l:IA} (hc:(c:Int)<C.aB) (o:w<4) (j:M.cB c w=n::l) (b:∀y,aHd C M n y->(((M.cB.set c w l) y.core.toNat<|cN y).length:Int)<C.eG):K7 C M c w n l:=by
 rcases Kc i hc o j with⟨_,_,h⟩|h;exfalso;have⟨h0,f⟩:=gx hC i q g<|Wj hc o j;rcases h with h|h;exact h h0;rcases f with f|⟨y,f,p⟩;rw[f] at h;exact h rfl;rw[f] at h;exact h<|S5 p.gE<|b y p;exact h
def Vx (C:bQ) (M:bR):Prop:=∀c:Nat,(c:Int)<C.aB->M.cB c 1=[]/\M.cB c 3=[]
def aRt (f:dD C N M) (g:RY C M V) (l:Vx C M) (hc:(c:Int)<C.aB):tP C M c=false:=by
 cases h:tP C M c with
 |false=>rfl
 |true=>
  unfold tP yX at h;cases ha:qX C _ with
  |none=>rw[ha] at h;cases h
  |some a=>
   rw[ha] at h;rw[ep] at h;have i:=h.2;have⟨o,ho⟩:=c7.1 i;have⟨_,_,h3⟩:=g.gE.bN c hc _<|Gi ho;have⟨x,hx,k13,xc,_⟩:=h3 h.1;have⟨c2,w2,hc2,hw2,hx2⟩:=uP hx;have j:=fK f hx2;have b:w2=3:=FA
   subst b;rw[(l c2 hc2).2] at hx2;cases hx2
def Pz (b:dD C N M) (f:RY C M V) (g:Vx C M) (hc:0<=x.core/\x.core<C.aB) (i:x.kind≠6/\x.kind≠12):jM C M x=true:=by
 unfold jM bS;rw[aaa];split;rw[aRt b f g FA,p9];rfl;rfl
theorem Gm {l l':IA} (h:l'.filter (jM C M')=l.filter (jM C M)) (f:x∈l) (b:jM C M x=true):x∈l'/\jM C M' x=true:=by
 have:x∈l'.filter (jM C M'):=FB
 grind
theorem Sp.aU2 (h:Sp C M M') (b:∀x∈M.cB c w,jM C M x=true) (f:∀x∈M'.cB c w,jM C M' x=true):M'.cB c w=M.cB c w:=by
 have:=h.cB c w;grind[List.filter_eq_self]
theorem aJj (b:dD C N M) (f:w=1\/w=3) (g:x∈M.cB c w):jM C M x=true:=by
 grind[fK,Ji]
def Sp.l13 (h:Sp C M M') (i:dD C N M) (b:dD C N' M') (g:w=1\/w=3) (c:Nat):M'.cB c w=M.cB c w:=
 h.aU2 (fun _ f=>aJj i g f) (fun _ f=>aJj b g f)
def Sp.q13 (h:Sp C M M') (f:dD C N M) (b:dD C N' M') (i:Vx C M):Vx C M':=fun c g=>by
 rw[h.l13 f b<|.inl rfl,h.l13 f b<|.inr rfl];exact i c g
def Sp.vL (h:Sp C M M') (f:x∈M'.cB c w) (b:jM C M' x=true):x∈M.cB c w/\jM C M x=true:=Gm (h.cB c w).symm f b
def Sp.fwd (h:Sp C M M') (f:x∈M.cB c w) (b:jM C M x=true):x∈M'.cB c w/\jM C M' x=true:=Gm (h.cB c w) f b
def dh (C:bQ) (S:Nat->aT) (M:bR) (d:Do):Prop:=∀(M':bR) (b:Nat),Zs C S b M'->Ex C M'->Sp C M M'->∀k,pz C M' (lN C (M',k) d).1
def Ri (b:Nt.gE C n=0):∃l:Nat,n.aI=(l:Int)/\l<C.aF:=by
 have⟨h1,h2⟩:=ji b;exact⟨n.aI.toNat,FA,FA⟩
theorem Lw (hC:C.Ok) (u:dD C N M) (p:RY C M V) (w:l<C.aF) (hb:(M.aK l).1.busy=true) (v:(M.aK l).1.cG=false) (t:(M.aK l).1.aX.kind≠0) (E:(M.aK l).1.aX.core=(i:Int)):
  ∀x∈dL C M.cB,x.core=(i:Int)->x.kind≠1/\x.kind≠2/\x.kind≠8/\x.kind≠9:=by
 have⟨j,hj,hjc,kG,hs⟩:=Bf hC p w hb v t
 have:j=i:=FA
 subst this
 have b:j<4:=FI
 intro x s o
 have⟨xl,hxl,hxll⟩:=Ri (rU u.cB s).gE
 have t1:=(p.rX.aI xl hxll).t1 j b
 have y:∀q,x.kind=q->PK q->0<fS q j xl _:=fun q f H=>gS (zH.2 ⟨s,hxl,FB⟩) f o hxl
 have A:∀q,x.kind=q->(q=1\/q=2\/q=8\/q=9)->False:=fun q f z=>by
  have D:=y q f GG;have g:(rY C M.bT xl j).qO=true:=by
   cases e:(rY C M.bT xl j).qO with
   |true=>rfl
   |false=>
    grind
  have B:((M.bT j).pO&&decide _)=true:=kG;have e2:((M.bT j).pO&&decide _)=true:=g;grind
 grind
theorem aAs (hC:C.Ok) (o:dD C N M) (p:RY C M V) (t:(i:Int)<C.aB) {y:aG} (q:x∈dL C M.cB) (s:y∈dL C M.cB) (j:x.core=(i:Int)) (l:y.core=(i:Int)) (f:x.kind=10):y.kind≠3:=by
 intro g;have b:i<4:=FI
 have⟨xl,hxl,hxll⟩:=Ri (rU o.cB q).gE;have⟨yl,hyl,hyll⟩:=Ri (rU o.cB s).gE;have t1:=(p.rX.aI xl hxll).t2 i b;have t2:=(p.rX.aI yl hyll).t2 i b;have v:=gS (zH.2 ⟨q,hxl,by rw[f];decide⟩) f j hxl;have w:=gS (zH.2 ⟨s,hyl,by rw[g];decide⟩) g l hyl;have g1:(rY C M.bT xl i).gi=true:=by
  cases e:(rY C M.bT xl i).gi with
  |true=>rfl
  |false=>grind
 have g2:(rY C M.bT yl i).gi=true:=by
  cases e:(rY C M.bT yl i).gi with
  |true=>rfl
  |false=>grind
 have u:((M.bT i).uH&&decide _)=true:=g1;have e2:((M.bT i).uH&&decide _)=true:=g2;grind
theorem lG (b:dD C N M) (f:x∈M.cB c w):x.core=(c:Int)/\x∈dL C M.cB/\0<=x.core/\x.core<C.aB:=by
 have h:=b.cB.yI c w x f;have g:=(fI h.1.gE).2;have⟨h3,h4⟩:=I2 b f;grind[qC]
theorem Xg {c' w':Nat} {l:IA} (h:¬(c'=c/\w'=w)):(F.set c w l) c' w'=F c' w':=by simp_all[eN.set,bA0]
theorem fu (b:dD C N M) (f:RY C M V) (hc:(c:Int)<C.aB) (h:∀x∈M.cB c 2,x.kind=12):(M.cB c 2).length<=1:=by
 have g:=Qp b f hc;have i:=Kk (p:=Vh) (l:=M.cB c 2) fun x j=>by rw[Vh];grind
 have:(M.aU c).dP.toNat<=1:=GN
 omega
theorem ld (b:dD C N M) (f:RY C M V) (hc:(c:Int)<C.aB) (g:x∈M.cB c 2) (p:x.kind=12):∀y∈M.cB c 0,y.kind≠6:=fun y i e=>by
 have j:=Qp b f hc;have l:0<(M.cB c 2).countP Vh:=AG.2 ⟨x,g,by rw[Vh];grind⟩;have o:0<(M.cB c 0).countP Vh:=AG.2 ⟨y,i,by rw[Vh];grind⟩;have:(M.aU c).dP.toNat<=1:=GN
 omega
theorem Ua {l:IA} (h:∀x∈l,False):l=[]:=by
 cases l with
 |nil=>rfl
 |cons x l=>grind[List.mem_cons_self]
theorem aVf (hC:C.Ok) (θ:2<=C.eG) (h:Zs C S N M) (hc:(c:Int)<C.aB) (β:M.cB c 1≠[]):∃c2 w2:Nat,(c2:Int)<C.aB/\w2<4/\M.cB c2 w2≠[]/\dh C S M ⟨1,c2,w2,0⟩:=by
 have⟨hI,hW,⟨V,hR⟩,hEn,hS⟩:=h.mem;cases hl:M.cB c 1 with
 |nil=>grind
 |cons n l=>
 have hk:=fK hI (show n∈M.cB c 1 by grind);have⟨nl,hnl,hnll⟩:=Ri (M7 hI hl).2.2;by_cases s:n.kind=5/\(M.aK nl).1.aX.kind≠0/\∃x∈M.cB (M.aK nl).1.aX.core.toNat 2,x.kind=10
 .obtain⟨Y,γ,x,hx,O⟩:=s;refine⟨_,2,(I2 hI hx).1,FA,(fun e=>FB),fun M' N' h' δ b q=>?_⟩;have⟨hI',hW',⟨V',hR'⟩,hEn',hS'⟩:=h'.mem;have⟨w,hw⟩:=b.jA nl hnll;have J:(M'.aK nl).1.aX=(M.aK nl).1.aX:=by rw[hw];rfl
  generalize hi:(M.aK nl).1.aX.core.toNat=i at*;have f:=(I2 hI hx).1;have p:M'.cB c 1=n::l:=by rw[b.l13 hI hI'<|.inl rfl,hl]
  have I:n∈M'.cB c 1:=by rw[p];exact c9
  have v:=hR'.rX.aI nl hnll;have D:c<4:=FI
  have A:(M'.aK nl).1.dS c=true:=by
   have t3:=v.t3 c D;have h5:=gS (zH.2 ⟨(lG hI' I).2.1,hnl,by rw[Y];decide⟩) Y (lG hI' I).1 hnl;cases e:(M'.aK nl).1.dS c with
   |true=>rfl
   |false=>grind
  have⟨B,E⟩:=Uh hR' hnll D A;have R:=b.fwd hx<|Ji FA;have t:(M'.aK nl).1.aX.core=(i:Int):=by
   have:=v.jA.core.1;grind
  have Jq:=Lw hC hI' hR' hnll B E (by rw[J];exact γ) t;cases hl2:M'.cB i 2 with
  |nil=>grind
  |cons u l2=>
  have g:u∈M'.cB i 2:=FB
  have κ:=Jq u (lG hI' g).2.1 (lG hI' g).1;have H:=fK hI' g;have H:u.kind=10\/u.kind=12:=FA
  rcases H with ο|X;refine Ht hC h' f FA hl2 (J0 hC hI' hR' hEn' f FA hl2 fun y T=>?_)<|.inl<|Ji FA;have:=T.k;omega;refine Ht hC h' f FA hl2 (J0 hC hI' hR' hEn' f FA hl2 fun y T=>?_)<|.inr ⟨X,?_⟩;have U:y.kind=6/\y.core=u.core:=by have:=T.k;omega
  have Z:y.core.toNat=i:=by rw[U.2];exact(hI'.cB.yI i 2 u g).2.1
  have e2:cN y=0:=by rw[cN];rw[U.1];rfl
  rw[Z,e2,Xg FA,Ua (l:=M'.cB i 0) fun z o=>?_];grind;have η:=fK hI' o;have ζ:=Jq z (lG hI' o).2.1 (lG hI' o).1;have ν:=aAs hC hI' hR' f (lG hI' R.1).2.1 (lG hI' o).2.1 (lG hI' R.1).1 (lG hI' o).1 O;have ξ:=ld hI' hR' f g X z o;omega;grind
 .refine⟨c,1,hc,FA,β,fun M' N' h' δ b q=>?_⟩;have⟨hI',hW',⟨V',hR'⟩,hEn',hS'⟩:=h'.mem;have p:M'.cB c 1=n::l:=by rw[b.l13 hI hI'<|.inl rfl,hl]
  refine Ht hC h' hc FA p (J0 hC hI' hR' hEn' hc FA p fun y T=>?_)<|.inl<|Ji FA;rcases T.k with⟨Y,k8,ε,B,E,h0⟩|μ;rotate_left;omega;rw[hnl,aM] at ε B E h0;have⟨w,hw⟩:=b.jA nl hnll;have J:(M'.aK nl).1.aX=(M.aK nl).1.aX:=by rw[hw];rfl
  have⟨j,hj,hjc,_,_⟩:=Bf hC hR' hnll B E h0;have Z:y.core.toNat=j:=FB
  have e2:cN y=2:=by rw[cN];rw[k8];rfl
  rw[Z,e2,Xg FA];have:=fu hI' hR' hj fun z o=>by
   have η:=fK hI' o;have ζ:=(Lw hC hI' hR' hnll B E h0 hjc) z (lG hI' o).2.1 (lG hI' o).1;have ι:z.kind≠10:=fun e=>s ⟨Y,FB,z,by
    have:=(b.vL o<|Ji FA).1;grind,e⟩
   omega
  omega
theorem aVi (hC:C.Ok) (h:Zs C S N M) (o:∀c:Nat,(c:Int)<C.aB->M.cB c 1=[]) (hc:(c:Int)<C.aB) (i:M.cB c 3≠[]):dh C S M ⟨1,c,(3:Nat),0⟩:=fun M' t h' p f q=>by
 have⟨hI,hW,⟨V,hR⟩,hEn,hS⟩:=h.mem;have⟨hI',hW',⟨V',hR'⟩,hEn',hS'⟩:=h'.mem;cases hl:M.cB c 3 with
 |nil=>exact absurd hl i
 |cons n l=>
 have b:M'.cB c 3=n::l:=by rw[f.l13 hI hI'<|.inr rfl,hl]
 have u:=fK hI' (show n∈M'.cB c 3 by grind);refine Ht hC h' hc FA b (J0 hC hI' hR' hEn' hc FA b fun y s=>?_)<|.inl<|Ji FA;have g:(y.kind=5\/y.kind=7)/\y.core=n.core:=by have:=s.k;omega
 have j:y.core.toNat=c:=by rw[g.2];exact(hI'.cB.yI c 3 n FB).2.1
 have e2:cN y=1:=by rw[cN];rcases g.1 with e|e<;>rw[e]<;>rfl
 rw[j,e2,Xg FA,f.l13 hI hI'<|.inl rfl,o c hc];have:=hC.2.2.2.2.1;grind
theorem aVv (hC:C.Ok) (h:Zs C S N M) (o:Vx C M) (hc:(c:Int)<C.aB) (g:x∈M.cB c 0) (s:x.kind≠6):dh C S M ⟨1,c,(0:Nat),0⟩:=fun M' v h' i b q=>by
 have⟨hI,hW,⟨V,hR⟩,hEn,hS⟩:=h.mem;have⟨hI',hW',⟨V',hR'⟩,hEn',hS'⟩:=h'.mem;have t:=fK hI g;have f:=(b.fwd g<|Pz hI hR o (lG hI g).2.2 FA).1;cases hl:M'.cB c 0 with
 |nil=>grind
 |cons n l=>
 have j:n∈M'.cB c 0:=FB
 have w:=fK hI' j;have p:n.kind≠6:=fun e=>by
  rw[hl] at f;rcases eD.1 f with e2|e2;grind;have:=i.wl c;simp_all
 refine Ht hC h' hc FA hl (J0 hC hI' hR' hEn' hc FA hl fun y u=>?_)<|.inl<|Pz hI' hR' (b.q13 hI hI' o) (lG hI' j).2.2 FA;have:=u.k;omega
def Q0 (C:bQ) (M:bR):Prop:=∀c:Nat,(c:Int)<C.aB->∀x∈M.cB c 0,x.kind=6
def Q2 (C:bQ) (M:bR):Prop:=∀c:Nat,(c:Int)<C.aB->∀x∈M.cB c 2,x.kind=12
def Sp.q0 (h:Sp C M M') (j:dD C N M) (b:dD C N' M') (f:RY C M' V') (o:Vx C M) (i:Q0 C M):Q0 C M':=fun c l x g=>by
 have p:=fK b g;apply gg;intro e;exact e<|i c l x<|(h.vL g<|Pz b f (h.q13 j b o) (lG b g).2.2 FA).1
def Sp.q2 (h:Sp C M M') (j:dD C N M) (b:dD C N' M') (f:RY C M' V') (o:Vx C M) (i:Q2 C M):Q2 C M':=fun c l x g=>by
 have p:=fK b g;apply gg;intro e;exact e<|i c l x<|(h.vL g<|Pz b f (h.q13 j b o) (lG b g).2.2 FA).1
theorem aPq (hC:C.Ok) (f:dD C N M) (q:RY C M V) (t:Vx C M) (p:Q0 C M) (hc:(c:Int)<C.aB) {l:IA} (A:M.cB c 2=n::l):∀y,aHd C M n y->(((M.cB.set c 2 l) y.core.toNat<|cN y).length:Int)<C.eG:=fun y u=>by
 have g:n∈M.cB c 2:=FB
 have x:=fK f g;have s:=hC.2.2.2.2.1;have b:y.core=n.core/\((n.kind=8/\y.kind=4)\/(n.kind=12/\y.kind=6)):=by have:=u.k;omega
 have j:y.core.toNat=c:=by rw[b.1];exact(f.cB.yI c 2 n g).2.1
 rcases b.2 with⟨_,v⟩|⟨i,w⟩;have e2:cN y=1:=by rw[cN];rw[v];rfl
 rw[j,e2,Xg FA,(t c hc).1];grind;have e2:cN y=0:=by rw[cN];rw[w];rfl
 rw[j,e2,Xg FA,Ua fun z o=>ld f q hc g i z o<|p c hc z o];grind
theorem aWp (hC:C.Ok) (h:Zs C S N M) (g:Vx C M) (p:Q0 C M) (hc:(c:Int)<C.aB) (i:x∈M.cB c 2) (o:x.kind≠12):dh C S M ⟨1,c,(2:Nat),0⟩:=fun M' w h' s b q=>by
 have⟨hI,hW,⟨V,hR⟩,hEn,hS⟩:=h.mem;have⟨hI',hW',⟨V',hR'⟩,hEn',hS'⟩:=h'.mem;have f:=b.q13 hI hI' g;have u:=fK hI i;have t:=b.fwd i<|Pz hI hR g (lG hI i).2.2 FA;cases hl:M'.cB c 2 with
 |nil=>grind
 |cons n l=>
 have j:n∈M'.cB c 2:=FB
 have y:=fK hI' j;apply Ht hC h' hc FA hl<|J0 hC hI' hR' hEn' hc FA hl<|aPq hC hI' hR' f (b.q0 hI hI' hR' g p) hc hl;by_cases v:n.kind=12;grind;exact .inl<|Pz hI' hR' f (lG hI' j).2.2 FA
theorem aUp (hC:C.Ok) (h:Zs C S N M) (v:Vx C M) (H:Q0 C M) (I:Q2 C M) (hc:(c:Int)<C.aB) (R:x∈M.cB c w) (B:jM C M x=true):dh C S M ⟨1,c,w,0⟩:=fun M' X h' T f q=>by
 have⟨hI,hW,⟨V,hR⟩,hEn,hS⟩:=h.mem;have⟨hI',hW',⟨V',hR'⟩,hEn',hS'⟩:=h'.mem;have g:=f.q13 hI hI' v;have i:=f.q0 hI hI' hR' v H;have b:=f.fwd R B;have A:=fK hI' b.1;have s:=(I2 hI' b.1).2;have o:w=0\/w=2:=by
  rcases A with e|e|e|e;exact .inl e.1;have j:=b.1;rw[e.1,(g c hc).1] at j;cases j;exact .inr e.1;have j:=b.1;rw[e.1,(g c hc).2] at j;cases j
 have O:=Qp hI' hR' hc;have Y:=Kk (p:=Vh) fun z D=>by rw[Vh];exact cL<|.inl<|i c hc z D
 have c2:=Kk (p:=Vh) fun z D=>by rw[Vh];exact cL<|.inr<|(f.q2 hI hI' hR' v I) c hc z D
 have hle:(M'.aU c).dP.toNat<=1:=by cases(M'.aU c).dP<;>decide
 cases hl:M'.cB c w with
 |nil=>rw[hl] at b;cases b.1
 |cons n l=>
 have u:x=n:=by
  grind
 have J:=hC.2.2.2.2.1;refine Ht hC h' hc s hl (J0 hC hI' hR' hEn' hc s hl ?_)<|.inl<|u▸b.2;rcases o with rfl|rfl;intro y U;have t:y.core=n.core/\y.kind=12:=by have:=U.k;grind
 have E:y.core.toNat=c:=by rw[t.1];exact(hI'.cB.yI c 0 n<|by rw[hl];exact c9).2.1
 have e2:cN y=2:=by rw[cN];rw[t.2];rfl
 rw[E,e2,Xg FA];grind;exact aPq hC hI' hR' g i hc hl
theorem vn {l:Int} {j:Int->Int×Bool} (hC:C.Ok) (O:n.kind=0\/n.kind=1\/n.kind=2\/n.kind=3) (q:0<=l/\l<C.aF) (B:(j n.bA).2=true->0<=(j n.bA).1/\(j n.bA).1<=4)
  (hc:∀y∈(bP.eX r l m n j).2,0<=y.core/\y.core<C.aB):(∃y,(bP.eX r l m n j).2=[y]/\Nt.gE C y=0/\cN y=2)\/∀y∈(bP.eX r l m n j).2,Nt.gE C y=0/\cN y=3/\Ml (bP.eX r l m n j).2 y<=1:=by
 have pr:∀{s:Int} {p:EW},(s=0\/s=1)->p.Nodup->(∀y∈eR l s p,0<=y.core/\y.core<C.aB)->∀y∈eR l s p,Nt.gE C y=0/\cN y=3/\Ml (eR l s p) y<=1:=fun {s p} E D o y x=>by
  have u:=o y x;obtain⟨i,J,rfl⟩:=eV.1 x;refine⟨aHo hC u q E,rfl,?_⟩;unfold Ml eR;refine cO ?_<|List.nodup_iff_count.1 D i;simp_all[List.count_eq_countP,List.countP_mono_left]
 have gr:∀{f:bP} {g:Ln},(f.aX.core=n.core)->(0<=f.bA/\f.bA<=4)->(∀y∈(f.dZ l g).2,0<=y.core/\y.core<C.aB)->∃y,(f.dZ l g).2=[y]/\Nt.gE C y=0/\cN y=2:=fun {f g} _ H o=>by
  have⟨w,hy0⟩:∃w,(f.dZ l g).2=[w]:=by
   grind[bP.dZ]
  have I:=(H6 w<|by rw[hy0];grind).2.1;have⟨y,e1,e2,e3,_⟩:=V4 (d:=g) hC FB q H;exact⟨y,e1,e2,by rw[cN,e3];rfl⟩
 rw[bP.eX] at hc ⊢
 by_cases A:n.kind=3
 .rw[bA1 A] at hc ⊢;exact .inl ⟨_,rfl,aG8 hC (.inr rfl) (hc (mR 10 n.core l) FB) q,rfl⟩
 rw[bA0 A] at hc ⊢
 by_cases v:n.kind=1\/n.kind=2
 .rw[bA1 v] at hc ⊢;by_cases b:(j n.bA).2=true
  .rw[bA1 b] at hc ⊢;unfold bP.get at hc ⊢;by_cases z:n.kind=2
   .rw[bA1 z] at hc ⊢;rw[bP.Ky] at hc ⊢;split
    .rename_i t;grind[Eg]
    .rename_i t;rw[bA0 t] at hc;exact .inl<|gr rfl (B b) hc
   .rw[bA0 z] at hc ⊢;have R:(((r.iM n (j n.bA).1).jZ).aX.core=n.core)/\((r.iM n (j n.bA).1).jZ).bA=(j n.bA).1:=by rw[bP.jZ];split<;>exact⟨rfl,rfl⟩
    rw[bP.Jv] at hc ⊢
    split
    .grind
    simp_all
  .rw[bA0 b] at hc ⊢;exact .inl ⟨_,rfl,aG8 hC (.inl rfl) (hc (mR 9 n.core l) FB) q,rfl⟩
 by_cases t:r.first (-1)= -1
 .grind
 .grind[Eg]
theorem Db (hC:C.Ok) (s:dD C N M) (t:RY C M V) (b:En C M) (p:Vx C M) (q:Q2 C M) (o:l<C.aF):(M.aK l).1.busy=false:=by
 cases hb:(M.aK l).1.busy with
 |false=>rfl
 |true=>
  have hIn:=t.rX.aI l o;have none:∀{x:aG},x∈H5 l (dL C M.cB)->x.kind=4\/x.kind=5\/x.kind=8\/x.kind=11->False:=fun {x} v w=>by
   have⟨c2,w2,hc2,hw2,hx2⟩:=uP (zH.1 v).1;rcases fK s hx2 with e|e|e|e;omega;rw[e.1,(p c2 hc2).1] at hx2;cases hx2;rw[e.1] at hx2;have:=q c2 hc2 x hx2;omega;rw[e.1,(p c2 hc2).2] at hx2;cases hx2
  rcases b.bz l o hb with u|g;have⟨i,j⟩:=aL hIn.jA.core.1;have t4:=hIn.t4 i (by have:=hIn.jA.core.2;omega);have:Ce (M.aK l).1 i=1:=by rw[Ce];rw[bA1 ⟨u,j⟩]
  grind[fS,H5,dL,I6];have:∃i,i<4/\(M.aK l).1.dS i=true:=by
   rw[bP.kK] at g;cases e0:(M.aK l).1.dS 0 with
   |true=>grind
   |false=>
    grind
  obtain⟨i,f,j⟩:=this;have t3:=hIn.t3 i f;grind[fS,H5,dL,I6]
theorem Nw (j:dD C N M) (b:RY C M V) (o:Vx C M) (f:l<C.aF):∀x∈(M.aK l).1.aH,jM C M x=true:=fun x g=>by
 have p:=((b.rX.aI l f).jA.aH x g).2.2;by_cases i:x.kind=0;grind[Ji];exact Pz j b o (b.rX.df f g i) FA
theorem Sp.aH (h:Sp C M M') (i:dD C N M) (o:RY C M V) (b:dD C N' M') (f:RY C M' V') (j:Vx C M) (g:l<C.aF):(M'.aK l).1.aH=(M.aK l).1.aH:=by
 have:=h.wt l g;rwa [AS.2<|Nw i o j g,AS.2<|Nw b f (h.q13 i b j) g] at this
theorem aV4 (hC:C.Ok) (O:2<=C.eG) (h:Zs C S N M) (H:Vx C M) (h0:Q0 C M) (U:Q2 C M) (A:l<C.aF) (D:(M.aK l).1.aH≠[]):dh C S M ⟨2,l,0,0⟩:=fun M' Z h' X t q=>by
 have⟨hI,hW,⟨V,hR⟩,hEn,hS⟩:=h.mem;have⟨hI',hW',⟨V',hR'⟩,hEn',hS'⟩:=h'.mem;have s:=t.q13 hI hI' H;have u:=t.q2 hI hI' hR' H U;have hb:=Db hC hI' hR' hEn' s u A;rw[<-t.aH hI hR hI' hR' H A] at D;rw[Bk FB,wq];suffices E:(M'.dK C _).2=0 by
  obtain⟨n,w,I,_,hle⟩:=kq hC hI' hR' E;have:=Nw hI' hR' s A n (by rw[I];grind);rw[this,bA1 rfl] at hle;exact .inr FA
 cases I:(M'.aK l).1.aH with
 |nil=>grind
 |cons n w=>
 have i:C.kG (l:Int):=⟨FA,FA⟩;have T:iN.dK (M'.aK l) (l:Int) (M'.gC C (l:Int))=((bP.eX ((M'.aK l).1.next w) (l:Int) (M'.aK l).2 n<|M'.gC C (l:Int)).1,(bP.eX ((M'.aK l).1.next w) (l:Int) (M'.aK l).2 n<|M'.gC C (l:Int)).2,0):=by
  rw[iN.dK];rw[bA0 FB,I]
 have e:eO C M'.aK (l:Int) (M'.gC C (l:Int))=(bD M'.aK l (bP.eX ((M'.aK l).1.next w) (l:Int) (M'.aK l).2 n<|M'.gC C (l:Int)).1,(bP.eX ((M'.aK l).1.next w) (l:Int) (M'.aK l).2 n<|M'.gC C (l:Int)).2,0):=by
  rw[eO];rw[bA1 i,aM,T]
 have⟨H',out,er,h3,h4,h5,_⟩:=hR'.rX.D5 (l:=(l:Int)) (j:=M'.gC C (l:Int));rw[e] at h3;have o:(bP.eX _ _ _ n _).2=out:=l6 (fun x=>x.2.1) h3;have R:=hI'.bH.len;have hL:=(bQ.fC hC).1;have b:=vn (l:=(l:Int)) (j:=M'.gC C _) hC (((hR'.rX.aI l A).jA.aH n FB).2.2) FA (fun _=>by
  rw[bR.gC,bA1 i];exact hI'.bH.jW ⟨FA,FA⟩) fun y f=>by
   rw[o] at f;exact(h4.nb y FB (h5 y f).2).1
 have v:∀y∈out,0<=y.core/\y.core<C.aB:=fun y f=>(h4.nb y FB (h5 y f).2).1;have hsend:(M'.cB.fY C (bP.eX ((M'.aK l).1.next w) (l:Int) (M'.aK l).2 n<|M'.gC C (l:Int)).2).2=0:=by
  rw[o] at b ⊢;rcases b with⟨y,f,B,p⟩|g;rw[f];have J:=v y FB;apply S5 B;rw[p];have:=fu (c:=y.core.toNat) hI' hR' FA fun z Y=>u _ FA z Y;omega;refine xJ (fun y f=>(g y f).1) fun y f=>?_;have⟨_,p,hm⟩:=g y f;have J:=v y f;rw[p,(s y.core.toNat FA).2];grind
 grind[bR.dK]
theorem aA4 (hC:C.Ok) (q:dD C N M) (l:RY C M V) (o:Vx C M) {r:Mc.mS} (p:M.bH.eI g=some r):r.phase=2:=by
 apply gg;intro w;have⟨h1,h2⟩:=l.gE.ph g r p;have t:¬r.none=true:=FB;have:∃i,i<4/\r.aH i=true:=by
  rw[mS.none] at t;cases e0:r.aH 0 with
  |true=>grind
  |false=>
   grind
 obtain⟨i,_,s⟩:=this;have f:(i:Int)<C.aB:=by
  grind
 have b:=l.gE.cd g i f;rw[Fa,p] at b;dsimp only at b;rw[s] at b;rw[Mc.cd] at b;obtain⟨x,u,j⟩:=AG.1 (show 0<_ by rw[b];grind);have v:=(cP j).2.2;have⟨c2,w2,hc2,hw2,hx2⟩:=uP u;rcases fK q hx2 with e|e|e|e;omega;rw[e.1,(o c2 hc2).1] at hx2;cases hx2;omega;rw[e.1,(o c2 hc2).2] at hx2;cases hx2
theorem z8 (hb:(M.aK l).1.busy=false) (b:(M.aK l).1.aH=[]):¬gO C M.aK (l:Int)>0:=by
 grind[gO,bP.Eu]
theorem fx (hC:C.Ok) (i:dD C N M) (j:RY C M V) (b:En C M) (o:Vx C M) (p:Q2 C M) (f:∀l,l<C.aF->(M.aK l).1.aH=[]) {r:Mc.mS} (q:M.bH.eI g=some r):M.gX C g=true:=by
 have⟨l0,l1⟩:=oN<|(i.bH.run g r q).1;have s:=aA4 hC i j o q;have e2:M.bH.phase (g:Int)=2:=by
  unfold Mon.phase Mon.run;grind
 have s0:=z8 (C:=C) (Db hC i j b o p l0)<|f _ l0;have s1:=z8 (C:=C) (Db hC i j b o p l1)<|f _ l1;grind[bR.gX,decide_eq_true,decide_eq_false,Int,Nat]
theorem aUy (hC:C.Ok) (h:Zs C S N M) (t:Vx C M) (z:Q2 C M) (E:∀l,l<C.aF->(M.aK l).1.aH=[]) {r:Mc.mS} (A:M.bH.eI g=some r):dh C S M ⟨3,g,0,0⟩:=fun M' I h' H f q=>by
 have⟨hI,hW,⟨V,hR⟩,hEn,hS⟩:=h.mem;have⟨hI',hW',⟨V',hR'⟩,hEn',hS'⟩:=h'.mem;have i:=f.q13 hI hI' t;have j:=f.q2 hI hI' hR' t z;have p:∀l,l<C.aF->(M'.aK l).1.aH=[]:=fun l s=>by rw[f.aH hI hR hI' hR' t s];grind
 have b:M'.bH.eI g=some r:=by rw[f.bH];exact A
 have D:=fx hC hI' hR' hEn' i j p b;have o:=(hI'.bH.run g r b).1;have w:=aA4 hC hI' hR' i b;have⟨l0,l1⟩:=oN o;have cl:∀l,l<C.aF->R4 _->Pc.vN _:=fun l s B=>by
  rcases B with(⟨e,_⟩|⟨x,O,_⟩)|e;rw[Db hC hI' hR' hEn' i j s] at e;cases e;grind;exact e
 have y:=hR'.U4 g r b w;have u:=hR'.gI hC hI' hW' o b w FB;rw[Bk FB,w5];refine .inl<|aJa hC h' ?_;have J:M'.bH.over g=((M'.bH.oO r.aS.toNat ⟨r.kC,false⟩).dO g none,some r,0):=by
  have v:=hI'.bH.len;rw[Mon.over];rw[bA0 fun e=>e ⟨FA,FA⟩];rw[Mon.run];rw[aac,aM,b];dsimp only;grind
 grind[bR.gI]
theorem ft (f:dD C N M) (i:RY C M V) (s:Vx C M) (q:∀g,M.bH.eI g=none) (o:∀c w x,x∈M.cB c w->jM C M x=false) (c w:Nat):M.cB c w=[]:=Ua fun x p=>by
 have t:=zu<|o c w x p;have j:=lG f p;have u:x.kind=6\/x.kind=12:=by
  apply gg;intro e;have:=Pz f i s j.2.2 FA;grind
 have l:=i.gE.gr c<|(I2 f p).1;have b:fB M.bH (M.aU c).aS=true:=by
  rw[bS] at t;grind
 have⟨g,hg⟩:=aL l.1;rw[hg] at b;have:=(i.gE.vY g FA).1 b;grind
theorem all_nil (h:∀c w,M.cB c w=[]):dL C M.cB=[]:=by
 simp_all[dL]
theorem ym (hC:C.Ok) (s:2<=C.eG) (H:dD C N M) (o:RY C M V) (z:En C M) (y:Ex C M) (u:∀c w,M.cB c w=[]) (v:∀l,l<C.aF->(M.aK l).1.aH=[]) (A:∀g,M.bH.eI g=none) (t:(i:Int)<C.aB):aRa C M i:=by
 have p:=all_nil (C:=C) u;have I:Vx C M:=fun c _=>FB;have E:Q2 C M:=fun c _ x y=>FB
 have f:i<4:=FI
 have b:=o.rX.Bc i f;have D:∀q l,fS q i l (H5 l<|dL C M.cB)=0:=fun q l=>by rw[p];rfl
 have J:∀q l,l<C.aF->fS q i l (M.aK l).1.aH=0:=fun q l h=>by rw[v l h];rfl
 refine⟨?_,?_,?_,u i 0,fun j=>u j 3,s,fun g g0 gl=>?_,y.wd i t⟩;have:=o.gE.cw i t;rw[p] at this;cases e:(M.aU i).dP with
 |false=>rfl
 |true=>rw[e] at this;cases this
 cases e:(M.bT i).pO with
 |false=>rfl
 |true=>
  obtain⟨⟨a0,a1⟩,_⟩:=b.al e;have⟨l,hll⟩:=aL a0;have t1:=(o.rX.aI l FA).t1 i f;have kG:(rY C M.bT l i).qO=true:=by
   show((M.bT i).pO&&decide _)=true;grind
  have B:By (M.aK l).1 i=0:=by rw[By];rw[bA0 fun e2=>by grind[Db]]
  grind
 cases e:(M.bT i).uH with
 |false=>rfl
 |true=>
  have⟨a0,a1⟩:=b.gl e;have⟨l,hll⟩:=aL a0;have t2:=(o.rX.aI l FA).t2 i f;have kG:(rY C M.bT l i).gi=true:=by
   show((M.bT i).uH&&decide _)=true;grind
  grind
 have⟨g',hg'⟩:=aL g0;rw[hg'];cases e:fB M.bH _ with
 |false=>rfl
 |true=>
  have:=(o.gE.vY g' FA).1 e;grind
theorem Tf {i:Int} (b:∀g,M.bH.eI g=none):M.bH.iC i=false:=by
 grind[Mon.iC,List.any_eq_false,Mon.qR]
theorem aVa (hC:C.Ok) (j:2<=C.eG) (h:Zs C S N M) (y:Vx C M) (A:∀c w x,x∈M.cB c w->jM C M x=false) (B:∀l,l<C.aF->(M.aK l).1.aH=[]) (u:∀g,M.bH.eI g=none)
 (o:(i:Int)<C.aB) (H:(M.aD i).over=false):dh C S M ⟨0,i,0,0⟩:=fun M' E h' v f q=>by
 have⟨hI,hW,⟨V,hR⟩,hEn,hS⟩:=h.mem
 have⟨hI',hW',⟨V',hR'⟩,hEn',hS'⟩:=h'.mem
 have b:∀g,M'.bH.eI g=none:=fun g=>by rw[f.bH];exact u g
 have p:∀c w x,x∈M'.cB c w->jM C M' x=false:=fun c w x D=>by
  cases e:jM C M' x with
  |false=>rfl
  |true=>
   have:=f.vL D e;grind
 have t:=ft hI' hR' (f.q13 hI hI' y) b p
 have s:∀l,l<C.aF->(M'.aK l).1.aH=[]:=fun l z=>by rw[f.aH hI hR hI' hR' y z];grind
 rw[Bk FB,a8]
 exact aM2 hC hI' hR' hEn' o (ym hC j hI' hR' hEn' v t s b o) (by rwa [f.aD])<|Tf b
theorem Cp (hc:(c:Int)<C.aB) (b:w<4) (h:M.cB c w≠[]):(⟨1,c,w,0⟩:Do)∈M.ready C:=by
 rw[bR.ready];grind
theorem aKv (hC:C.Ok) (j:2<=C.eG) (h:Zs C S N M) (T:Ex C M) (B:M.over C=false):∃d∈M.ready C,dh C S M d:=by
 have⟨hI,hW,⟨V,hR⟩,hEn,hS⟩:=h.mem;by_cases p1:∃c:Nat,(c:Int)<C.aB/\M.cB c 1≠[];grind[aVf,Cp];have l1:∀c:Nat,(c:Int)<C.aB->M.cB c 1=[]:=FB;by_cases Z:∃c:Nat,(c:Int)<C.aB/\M.cB c 3≠[];obtain⟨c,f,o⟩:=Z;exact⟨_,Cp f FA o,aVi hC h l1 f o⟩;have q:Vx C M:=fun c f=>FB;by_cases n1:∃c:Nat,(c:Int)<C.aB/\∃x∈M.cB c 0,x.kind≠6;obtain⟨c,f,x,b,u⟩:=n1;exact⟨_,Cp f FA FB,aVv hC h q f b u⟩;have A:Q0 C M:=fun c f x b=>FB;by_cases U:∃c:Nat,(c:Int)<C.aB/\∃x∈M.cB c 2,x.kind≠12;obtain⟨c,f,x,b,u⟩:=U;exact⟨_,Cp f FA FB,aWp hC h q A f b u⟩;have y:Q2 C M:=fun c f x b=>FB;by_cases X:∃c w x,x∈M.cB c w/\jM C M x=true;obtain⟨c,w,x,b,H⟩:=X;have⟨f,hw⟩:=I2 hI b;exact⟨_,Cp f hw FB,aUp hC h q A y f b H⟩;have v:∀c w x,x∈M.cB c w->jM C M x=false:=FB;by_cases Y:∃l,l<C.aF/\(M.aK l).1.aH≠[];obtain⟨l,z,o⟩:=Y;refine⟨_,?_,aV4 hC j h q A y z o⟩;rw[bR.ready];grind[Db,decide_eq_true];have p:∀l,l<C.aF->(M.aK l).1.aH=[]:=FB;by_cases n5:∃g r,M.bH.eI g=some r;obtain⟨g,r,E⟩:=n5;refine⟨_,?_,aUy hC h q y p E⟩;refine cj.2<|.inr ?_;have J:=(hI.bH.run g r E).1;exact eV.2 ⟨g,BB.2 ⟨FB,fx hC hI hR hEn q y p E⟩,rfl⟩;have t:∀g,M.bH.eI g=none:=fun g=>by
  cases e:M.bH.eI g with
  |none=>rfl
  |some r=>grind
 have z:=ft hI hR q t v;have D:∃i:Nat,(i:Int)<C.aB/\(M.aD i).over=false:=by
  apply gg;intro e;rw[bR.over] at B;have e1:M.pg C=[]:=by rw[X5];exact all_nil z
  have e2:((List.range C.aB.toNat).all fun i=>(M.aD i).over&& !(M.bT i).pO&& !(M.aU i).dP)=true:=ss.2 fun i O=>by
   have s:(i:Int)<C.aB:=by have:=z2.1 O;omega
   have I:=ym hC j hI hR hEn T z p t s;have:(M.aD i).over=true:=by
    cases e3:(M.aD i).over with
    |true=>rfl
    |false=>grind
   rw[this,I.pO,I.dP];rfl
  grind
 obtain⟨i,s,R⟩:=D;refine⟨_,?_,aVa hC j h q v p t s R⟩;rw[bR.ready];refine cj.2<|.inl<|cj.2<|.inl<|cj.2<|.inl<|eV.2 ⟨i,BB.2 ⟨FB,?_⟩,rfl⟩;grind[bR.aH,Tf]
end
section
variable {n:aG}
theorem Ex.yo (hC:C.Ok) (h:Zs C S N M) (g:Ex C M):Ex C (lN C (M,k) d).1:=by
 have b:=g.mK hC h (d:=d);by_cases f:d.mH=1/\d.b=2;rw[Ps f];split;exact b;exact b.mK hC (h.mK hC) (d:=⟨0,d.a,0,0⟩);grind[Bk]
structure aW0 (C:bQ) (S:Nat->aT) (N:Nat) (M M':bR):Prop where
 zs:Zs C S N M'
 ex:Ex C M'
 gr:M.eY.length<=M'.eY.length
theorem de (hC:C.Ok):∀{l:IF} {N:Nat} {M:bR} {k:Nat},Zs C S N M->Ex C M->(∀d∈l,IsR C d)->aW0 C S (N+4*l.length) M (l.foldl (lN C) (M,k)).1/\Mv C M (l.foldl (lN C) (M,k)).1:=by
 intro l;induction l with
 |nil=>intro N M k h b _;exact⟨⟨h,b,b0 _⟩,Mv.refl⟩
 |cons d l g=>
  intro N M k h b f;have⟨h1,g1⟩:=h.yo (d:=d) (k:=k) hC;have⟨r2,m2⟩:=g (k:=(lN C (M,k) d).2) h1 (b.yo (d:=d) (k:=k) hC h) FB;refine⟨⟨?_,r2.ex,cO g1 r2.gr⟩,(aI4 (k:=k) hC h<|f d c9).trans m2 g1 r2.gr⟩;have:=r2.zs;grind
theorem oz (hC:C.Ok) (l:2<=C.eG) (h:Zs C S N M) (g:Ex C M) (q:M.over C=false):pz C M (M.round C).1:=by
 have⟨d,hd,hp⟩:=aKv hC l h g q;have⟨l1,l2,hl⟩:=List.append_of_mem hd;have b:∀x∈M.ready C,IsR C x:=fun x g=>T6 g;rw[bR.round];rw[hl] at b ⊢;rw[CS,CA];have⟨r1,i⟩:=de (k:=0) hC h g fun x g=>b x<|cj.2<|.inl g;generalize l1.foldl _ (M,0)=A at*;obtain⟨o,j⟩:=A;dsimp only at r1 i;have f:=r1.zs.yo (d:=d) (k:=j) hC;have p:pz C M (lN C (o,j) d).1:=by
  rcases i with i|i|i;exact .inl FA;exact pz.trans (.inr i) (aI4 (k:=j) hC r1.zs FB) r1.gr f.2;exact(Mv.go (.inr<|.inr i) (hp o _ r1.zs r1.ex i j) r1.gr f.2)
 have⟨r3,m3⟩:=de (k:=(lN C (o,j) d).2) hC f.1 (r1.ex.yo (d:=d) (k:=j) hC r1.zs) fun x g=>b x<|cj.2<|.inr<|ca _ g;exact p.trans m3 (cO r1.gr f.2) r3.gr
def Tc (hC:C.Ok) (h:Zs C S N M) (f:Ex C M):aW0 C S (N+400) M (M.round C).1:=by
 have b:=(de (l:=M.ready C) (k:=0) hC h f fun x f=>T6 f).1;have g:=(Om (C:=C) (M:=M)).2.2;have i:=hC.1;have j:=(bQ.fC hC);refine⟨⟨⟨b.zs.all.inv.mono FA,b.zs.all.lF,b.zs.all.zh⟩,b.zs.ry,b.zs.en,b.zs.sw⟩,b.ex,b.gr⟩
end
variable {P:Nat->ID}
section
variable {n:aG}
def Ko (p:ID):Prop:=∀a:Int,0<=a->a<p.length->((mX p a).op=9->a<(mX p a).a)/\((mX p a).op=10->a<(mX p a).b)
theorem aRb {s t:aT} {v:Ev} (o:s.Ok) (l:Ko s.prog) (h:rp i s v=some t):t.prog=s.prog/\s.at'+1<=t.at'/\t.at'<=s.prog.length:=by
 have nx:∀{x:iD},aT.kQ s=some x->s.at'<s.prog.length/\x=mX s.prog s.at'/\aKw x s.prog.length:=fun {x} f=>by
  rw[aT.kQ] at f;split at f;cases f;rename_i u;grind[R5]
 rw[rp] at h;split at h;rename_i r b;split at h;cases h;rw[aT.mM] at b;cases f:aT.kQ s with
 |none=>grind
 |some x=>
  rw[f] at b;have⟨h1,h2,h3⟩:=nx f;have g:=l s.at' o.1 h1;rw[<-h2] at g;dsimp only at b;split at b;cases b;exact⟨rfl,BS _,FL⟩;split at b;cases b;exact⟨rfl,BS _,FL⟩;split at b;cases b;exact⟨rfl,BS _,FL⟩;split at b;split at b;cases b;exact⟨rfl,BS _,FL⟩;cases b;exact⟨rfl,BS _,FL⟩;split at b;rename_i p;cases b;exact⟨rfl,by show s.at'+1<=x.a;grind,(h3.p1 p).2⟩;split at b;rename_i j;cases b;have q:=(h3.p2 j).2;refine⟨rfl,?_,?_⟩;show s.at'+1<=(if s.dI x.a.toNat=0 then x.b else s.at'+1);grind;show(if s.dI x.a.toNat=0 then x.b else s.at'+1)<=_;grind;cases b
 cases h;split at h;rename_i b;cases h;have b:=b.1;rw[aT.bL] at b ⊢;cases f:aT.kQ s with
 |none=>grind
 |some x=>
  rw[f] at b;have⟨h1,h2,h3⟩:=nx f;dsimp only at b ⊢;split;exact⟨rfl,BS _,FL⟩;rename_i w;split;rename_i y;split;grind;split;exact⟨rfl,BS _,FL⟩;split;exact⟨rfl,BS _,FL⟩;exact⟨rfl,BS _,FL⟩;grind
 cases h
structure St (C:bQ) (P:Nat->ID) (M:bR):Prop where
 pr:∀i:Nat,(i:Int)<C.aB->(M.aD i).prog=P i
 le:∀i:Nat,(i:Int)<C.aB->(M.aD i).at'<=(P i).length
 lg:M.eY.length<=fH (fun i=>(M.aD i).at'.toNat) C.aB.toNat
theorem St.ev (p:dD C N M) (hP:∀i:Nat,(i:Int)<C.aB->Ko (P i)) (h:St C P M) {s:aT} {v:Ev} (o:(i:Int)<C.aB) (l:M'.aD=bD M.aD i s) (u:M'.eY=M.eY++[v]) (q:rp i (M.aD i) v=some s):St C P M':=by
 have g:=p.B1 i o;have⟨a1,a2,a3⟩:=aRb g (by rw[h.pr i o];grind) q;rw[h.pr i o] at a1 a3;have t:=g.1;refine⟨fun j b=>?_,fun j b=>?_,?_⟩;rw[l];by_cases e:j=i;grind[cQ];rw[Ab.bO e];exact h.pr j b;rw[l];by_cases e:j=i;grind[cQ];rw[Ab.bO e];exact h.le j b;have:=pX (f:=fun j=>(M'.aD j).at'.toNat) (k:=i) (n:=C.aB.toNat) FA fun j _ b=>by rw[l,Ab.bO b]
 have e:(M'.aD i).at'=s.at':=by rw[l,cQ]
 have w:=h.lg;grind
def St.mK (hC:C.Ok) (p:dD C N M) (w:Dc M) (hP:∀i:Nat,(i:Int)<C.aB->Ko (P i)) (h:St C P M):St C P (M.mK C d).1:=by
 cases H0 (d:=d) hC p w with
 |qE b f o=>exact⟨by rw[b];exact h.pr,by rw[b];exact h.le,by rw[b,f];exact h.lg⟩
 |ev j s v l u t b f x q o=>exact h.ev p hP l b f q
 |uB j g l u t b f y o=>exact⟨by rw[b];exact h.pr,by rw[b];exact h.le,by rw[b,f];exact h.lg⟩
 |sY j g s v l u A b f x B z q o=>exact h.ev p hP l b f q
theorem St.yo (hC:C.Ok) (f:Zs C S N M) (hP:∀i:Nat,(i:Int)<C.aB->Ko (P i)) (h:St C P M):St C P (lN C (M,k) d).1:=by
 have g:=h.mK hC f.all.inv f.all.lF hP (d:=d);by_cases j:d.mH=1/\d.b=2;rw[Ps j];split;exact g;have b:=f.mK (d:=d) hC;exact g.mK hC b.all.inv b.all.lF hP (d:=⟨0,d.a,0,0⟩);grind[Bk]
theorem St.aR7 (hC:C.Ok) (hP:∀i:Nat,(i:Int)<C.aB->Ko (P i)):∀{l:IF} {N:Nat} {M:bR} {k:Nat},Zs C S N M->St C P M->St C P (l.foldl (lN C) (M,k)).1:=by
 intro l;induction l with
 |nil=>grind
 |cons d l f=>
  intro N M k b h;exact f (b.yo hC).1<|h.yo hC b hP
theorem St.aQg (b:dD C N M) (h:St C P M):M.eY.length<=fH (fun i=>(P i).length) C.aB.toNat:=by
 refine cO h.lg<|gY fun i f=>?_;have:=h.le i FA;grind
theorem aFh {A:Int} (h:(M.step C A).2≠0):(M.step C A).1=M:=by
 rw[bR.step] at h ⊢;split;rfl;rename_i l;dsimp only at h ⊢;split;rfl;rename_i o;split;rfl;rename_i p;split;grind;rename_i j;rw[j] at h;split;rename_i a b;rw[b] at h;unfold bR.call at h ⊢;dsimp only at h ⊢;split;simp_all[bA1,Dw];grind;rename_i f;rw[f] at h;split;rename_i a b;rw[b] at h;dsimp only at h;rw[bR.fF] at h ⊢;split;simp_all[bA1,Dw];rename_i q;dsimp only at h ⊢;split;rfl;rename_i s;split;rename_i g;grind[bR.Cm];rename_i g;split;simp_all[bA1,Dw];rename_i t;split;rename_i i;grind[bR.fV];rename_i i;unfold bR.jY at h;simp_all[bR.bL,bA0,K3];rfl
theorem aSo (hC:C.Ok) (h:Zs C S N M) (q:IsR C d) (f:(M.mK C d).2≠0):(M.mK C d).1=M:=by
 have⟨hI,hW,⟨V,hR⟩,hEn,hS⟩:=h.mem;cases q with
 |step i u=>grind[a8,aFh]
 |beg l j=>grind[wq,O0]
 |sY g t=>grind[w5,Lz]
 |del c w p s=>
  rw[Dv] at f ⊢;cases j:M.cB c w with
  |nil=>grind[V7]
  |cons n l=>
   rcases Kc hI p s j with⟨_,o,_⟩|b;exact o;rw[b.e] at f;grind
theorem aVk (hC:C.Ok) (h:Zs C S N M) (b:IsR C d):k<=(lN C (M,k) d).2/\((lN C (M,k) d).2=k->(lN C (M,k) d).1=M):=by
 unfold lN;dsimp only;split;rename_i f;exact⟨b0 _,fun _=>aSo hC h b f⟩;grind
theorem aS4 (hC:C.Ok):∀{l:IF} {N:Nat} {M:bR} {k:Nat},Zs C S N M->(∀d∈l,IsR C d)->k<=(l.foldl (lN C) (M,k)).2/\((l.foldl (lN C) (M,k)).2=k->(l.foldl (lN C) (M,k)).1=M):=by
 intro l;induction l with
 |nil=>grind
 |cons d l f=>
  intro N M k h b;have⟨h1,h2⟩:=aVk (k:=k) hC h<|b d c9;have⟨h3,h4⟩:=f (k:=(lN C (M,k) d).2) (h.yo (d:=d) (k:=k) hC).1 FB;grind
def aCy (hC:C.Ok) (b:2<=C.eG) (h:Zs C S N M) (i:Ex C M) (g:M.over C=false):0<(M.round C).2:=by
 apply gg;intro e;have f:=oz hC b h i g;have e2:(M.round C).1=M:=(aS4 hC h fun x i=>T6 i).2 (by show(M.round C).2=0;omega);rw[e2] at f;rcases f with f|f<;>omega
end
section
variable {n:aG} {r:bP} {L:IA}
def P5 (x:aG):Bool:=decide<|x.kind=1\/x.kind=2\/x.kind=8\/x.kind=9
def Qi (x:aG):Bool:=decide<|x.kind=3\/x.kind=10
def Fy (p:aG->Bool) (i:Nat) (x:aG):Bool:=decide (x.core=(i:Int))&&p x
def Ih {f:Nat->Nat->Nat} {a:Nat}:∀{b:Nat},fH (fun l=>fH (f l) a) b=fH (fun i=>fH (fun l=>f l i) b) a
 |0=>(nB fun _ _=>rfl).symm
 |b+1=>by
  show fH _ b+fH _ a=_;rw[Ih,<-lS];rfl
def ff {f:Nat->Nat}:∀{n:Nat},fH (fun l=>f<|l/2) (n*2)=2*fH f n
 |0=>rfl
 |n+1=>by
  rw[show(n+1)*2=n*2+1+1 by omega];show fH _ _+f _+f _=2*(fH f n+f n);rw[ff,show n*2/2=n by omega,show(n*2+1)/2=n by omega];omega
def Ei {b:Nat}:∀{n:Nat},fH (fun _=>b) n=b*n
 |0=>rfl
 |n+1=>by show fH _ n+b=_;rw[Ei,Nat.mul_succ]
theorem Gd {p:aG->Bool} {n:Nat}:∀{L:IA},(∀x∈L,p x=true->0<=x.core/\x.core<n)->L.countP p=fH (fun i=>L.countP<|Fy p i) n
 |[],_=>(nB fun _ _=>rfl).symm
 |x::L,h=>by
  rw[m0,Gd fun y g=>h y<|ca _ g];split;rename_i b;have⟨h1,h2⟩:=h x FB b;have⟨k,hk⟩:=aL h1;have:=pX (f:=fun i=>(x::L).countP<|Fy p i) (k:=k) (n:=n) FA fun i _ j=>by
   rw[List.countP_cons_of_neg];grind[Fy]
  grind[Fy,List.countP_cons_of_pos];grind[nM,List.countP_cons_of_neg,Fy]
theorem Gq {p:aG->Bool} {n:Nat}:∀{L:IA},(∀x∈L,p x=true->(0<=x.aI/\x.aI<n)/\PK x.kind)->L.countP p=fH (fun l=>(L.filter<|Q8 l).countP p) n
 |[],_=>(nB fun _ _=>rfl).symm
 |x::L,h=>by
  rw[m0,Gq fun y j=>h y<|ca _ j];by_cases b:p x=true;obtain⟨⟨g,q⟩,i⟩:=h x FB b;have⟨k,hk⟩:=aL g;have:=pX (f:=fun l=>((x::L).filter<|Q8 l).countP p) (k:=k) (n:=n) FA fun l _ s=>by
   rw[AP];intro e;have:=(cP e).1;omega
  have o:((x::L).filter<|Q8 k).countP p=(L.filter<|Q8 k).countP p+1:=by
   rw[BR<|show Q8 k x=true from cL ⟨hk,i⟩,m0,bA1 b]
  grind;grind
theorem bp {i l:Nat}:∀{L:IA},(∀x∈L,x.aI=(l:Int))->L.countP (Fy P5 i)=fS 1 i l L+fS 2 i l L+fS 8 i l L+fS 9 i l L/\L.countP (Fy Qi i)=fS 3 i l L+fS 10 i l L
 |[],_=>⟨rfl,rfl⟩
 |x::L,h=>by
  have⟨h1,h2⟩:=bp (i:=i) fun y g=>h y<|ca _ g;simp[dW,m0];have a:(if Fy P5 i x=true then 1 else 0)=(if x.kind=1/\x.core=(i:Int)/\x.aI=(l:Int) then 1 else 0)+(if x.kind=2/\x.core=(i:Int)/\x.aI=(l:Int) then 1 else 0)+(if x.kind=8/\x.core=(i:Int)/\x.aI=(l:Int) then 1 else 0)+(if x.kind=9/\x.core=(i:Int)/\x.aI=(l:Int) then 1 else 0):=by
   unfold Fy P5;by_cases f:x.core=(i:Int);grind;simp[f]
  have b:(if Fy Qi i x=true then 1 else 0)=(if x.kind=3/\x.core=(i:Int)/\x.aI=(l:Int) then 1 else 0)+(if x.kind=10/\x.core=(i:Int)/\x.aI=(l:Int) then 1 else 0):=by
   unfold Fy Qi;by_cases f:x.core=(i:Int);grind;simp[f]
  omega
theorem aW7 (hC:C.Ok) (t:RY C M V) (y:(i:Int)<C.aB):(dL C M.cB).countP (Fy P5 i)+fH (fun l=>(M.aK l).1.aH.countP (Fy P5 i)+By (M.aK l).1 i) C.aF<=1/\
  (dL C M.cB).countP (Fy Qi i)+fH (fun l=>(M.aK l).1.aH.countP<|Fy Qi i) C.aF<=1:=by
 have g:i<4:=FI
 have v:∀{p:aG->Bool},(∀x,p x=true->PK x.kind)->∀x∈dL C M.cB,Fy p i x=true->(0<=x.aI/\x.aI<C.aF)/\PK x.kind:=fun {p} u x f h=>by
  rw[Fy,ep] at h;exact⟨(t.rX.nb x f<|u x h.2).2,u x h.2⟩
 rw[Gq<|v fun x h=>by have:=cP h;rw[PK];omega,Gq (v fun x h=>by have:=cP h;unfold PK;omega),<-lS,<-lS]
 have each:∀l:Nat,l<C.aF->((dL C M.cB).filter<|Q8 l).countP (Fy P5 i)+((M.aK l).1.aH.countP (Fy P5 i)+By (M.aK l).1 i)<=(rY C M.bT l i).qO.toNat/\
   ((dL C M.cB).filter<|Q8 l).countP (Fy Qi i)+(M.aK l).1.aH.countP (Fy Qi i)<=(rY C M.bT l i).gi.toNat:=fun l j=>by
  have o:=t.rX.aI l j
  have t1:=o.t1 i g
  have t2:=o.t2 i g
  have⟨a1,a2⟩:=bp (i:=i) (L:=(dL C M.cB).filter _) fun x f=>(zH.1<|show x∈H5 l _ from f).2.1
  have⟨b1,b2⟩:=bp (i:=i) fun x f=>(o.jA.aH x f).1
  have z:∀q,(q=8\/q=9\/q=10)->fS q i l _=0:=fun q A=>AI.2 fun x f e=>by
   have:=(o.jA.aH x f).2.2;have:=(cP e).1;omega
  grind[H5]
 refine⟨?_,?_⟩
 .have kG:∀l:Nat,(rY C M.bT l i).qO=((M.bT i).pO&&decide _):=fun l=>rfl;by_cases j:(M.bT i).al.toNat<C.aF
  .refine Dh (k:=(M.bT i).al.toNat) (fun l b s=>?_) ?_
   .have:(rY C M.bT l i).qO=false:=HZ
    grind
   .have w:=(each _ j).1;have:(rY C M.bT (M.bT i).al.toNat i).qO.toNat<=1:=by cases(rY C M.bT _ i).qO<;>decide
    omega
  .rw[nB fun l b=>?_]
   .omega
   .have:(rY C M.bT l i).qO=false:=HZ
    grind
 .have kG:∀l:Nat,(rY C M.bT l i).gi=((M.bT i).uH&&decide _):=fun l=>rfl;by_cases j:(M.bT i).gl.toNat<C.aF
  .refine Dh (k:=(M.bT i).gl.toNat) (fun l b s=>?_) ?_
   .have:(rY C M.bT l i).gi=false:=HZ
    grind
   .have w:=(each _ j).2;have:(rY C M.bT (M.bT i).gl.toNat i).gi.toNat<=1:=by cases(rY C M.bT _ i).gi<;>decide
    omega
  .rw[nB fun l b=>?_]
   .omega
   .have:(rY C M.bT l i).gi=false:=HZ
    grind
theorem aO2 (s:dD C N M) (t:Dc M):fH (fun g=>if(M.bH.eI g).isSome then 1 else 0) C.aJ.toNat<=C.aB.toNat:=by
 have p:∀g,(if(M.bH.eI g).isSome then 1 else 0)=fH (fun i=>if rc M.bH g=some (i:Int) then 1 else 0) C.aB.toNat:=fun g=>by
  cases hr:M.bH.eI g with
  |none=>
   grind[nB,rc]
  |some r=>
   obtain⟨_,_,_,⟨l,w⟩,_⟩:=s.bH.run g r hr;have⟨i,hi⟩:=aL l;have e:rc M.bH g=some (i:Int):=by rw[rc];grind
   have:=pX (f:=fun j=>if rc M.bH g=some (j:Int) then 1 else 0) (g:=fun _=>0) (k:=i) (n:=C.aB.toNat) FA FB;simp_all[bA1,nB]
 rw[nM fun g _=>p g,Ih];have q:fH (fun _=>1) C.aB.toNat=C.aB.toNat:=by rw[Ei];omega
 refine cO (gY fun i _=>?_)<|AF q;by_cases v:∃g,rc M.bH g=some (i:Int);obtain⟨g,u⟩:=v;refine Dh (k:=g) (fun o _ b=>?_) ?_;rw[bA0];exact fun e=>b<|t.E8 o g _ e u;grind;simp_all[nB,bA0]
theorem aM4:nT C M (dL C F)=fH (fun c=>nT C M (F c 0)+nT C M (F c 1)+nT C M (F c 2)+nT C M (F c 3)) C.aB.toNat:=by
 rw[dL];generalize C.aB.toNat=n;induction n with
 |zero=>rfl
 |succ n b=>
  rw[dx (n:=n),l9,sX,b];congr 1;rw[AD,EJ,g7];show nT C M ([0,1,2,3].flatMap fun w=>F n w)=_;grind[sX]
theorem aUs:nW C M n<=42*(if Vh n then 1 else 0)+32*(if P5 n then 1 else 0)+10*(if Qi n then 1 else 0)+(if n.kind=4\/n.kind=5\/n.kind=7 then 1 else 0)+2*(if n.kind=11\/n.kind=13 then 1 else 0):=by
 cases hs:bS C M n with
 |true=>simp_all[P4,m6]
 |false=>
  rw[F8 hs];split;rename_i b;have f:Vh n=true:=cL b;grind[Bi,yC];grind[Qj,P5,Qi]
theorem aGp:∀{L:IA},(∀x∈L,¬(x.kind=4\/x.kind=5\/x.kind=7)/\¬(x.kind=11\/x.kind=13))->nT C M L<=42*L.countP Vh+32*L.countP P5+10*L.countP Qi
 |[],_=>m6 _
 |x::L,h=>by
  have i:=aGp fun y b=>h y<|ca _ b;have g:=h x c9;have f:=aUs (C:=C) (M:=M) (n:=x);grind[hQ]
theorem aH2 {b:Nat}:∀{L:IA},(∀x∈L,nW C M x<=b)->nT C M L<=b*L.length
 |[],_=>m6 _
 |x::L,h=>by
  have g:=aH2 fun y f=>h y<|ca _ f;grind[List.mem_cons_self,hQ,List.length_cons,Nat.mul_succ]
theorem aQ6:∀{L:IA},(∀x∈L,Vh x=true\/P5 x=true\/Qi x=true)->L.countP Vh<=1->Mc.e2 C M L<=L.countP P5+L.countP Qi
 |[],_,_=>m6 _
 |x::L,h,f=>by
  rw[Mc.e2];rw[m0] at f;rw[m0,m0];split;rename_i b;have g:Vh x=true:=cL<|.inr b;rw[g,bA1 rfl] at f;have:∀{l:IA},(∀y∈l,P5 y=true\/Qi y=true)->l.countP (jM C M)<=l.countP P5+l.countP Qi:=by
   intro l;induction l with
   |nil=>grind
   |cons y l j=>
    grind
  grind;have j:=aQ6 (fun y i=>h y<|ca _ i) FA;omega
theorem aIy (hC:C.Ok) (g:dD C N M) (i:RY C M V) (hc:(c:Int)<C.aB):
  nT C M (M.cB c 0)+nT C M (M.cB c 1)+nT C M (M.cB c 2)+nT C M (M.cB c 3)+Mc.e2 C M (M.cB c 2)<=42*(M.aU c).dP.toNat+33*(dL C M.cB).countP (Fy P5 c)+11*(dL C M.cB).countP (Fy Qi c)+48:=by
 have s:=Qp g i hc
 have hle:(M.aU c).dP.toNat<=1:=GN
 have qE:∀{p:aG->Bool} w,(M.cB c w).countP p=(M.cB c w).countP (Fy p c):=fun {p} w=>List.countP_congr fun x f=>by
  rw[Fy,cL (lG g f).1,AK]
 have hA:=Si (F:=M.cB) (w:=0) (v:=2) (p:=Fy P5 c) hc FA FA FA
 have hP:=Si (F:=M.cB) (w:=0) (v:=2) (p:=Fy Qi c) hc FA FA FA
 rw[<-qE,<-qE] at hA hP
 have n0:=aGp (C:=C) (M:=M) (L:=M.cB c 0) fun x f=>by grind[fK]
 have t:=aGp (C:=C) (M:=M) (L:=M.cB c 2) fun x f=>by grind[fK]
 have n1:=aH2 (C:=C) (M:=M) (b:=1) (L:=M.cB c 1) fun x f=>by
  have q:=fK g f;grind[M9,Qj]
 have u:=aH2 (C:=C) (M:=M) (b:=2) (L:=M.cB c 3) fun x f=>by
  grind[fK,M9,Qj]
 have e:=aQ6 (C:=C) (M:=M) (L:=M.cB c 2) (fun x f=>by
  grind[fK,Vh,P5,Qi]) FA
 have j:=g.cB.len c 1
 have l:=g.cB.len c 3
 have o:=hC.2.2.2.2.1
 omega
theorem aNl:hJ C M c+42*(M.aU c).dP.toNat<=122:=by
 rw[hJ];have b:∀{s:jR} {l:Int},mY C s l<=12:=aA5;cases qX C _ with
 |none=>
  have:(M.aU c).dP.toNat<=1:=GN
  grind
 |some a=>
  dsimp only;have b:=b (s:=M.bT c) (l:=a.aI);cases(M.aU c).dP<;>cases fB M.bH a.aS<;>cases vP _ a.aS<;>cases tU C M c a<;>simp only[aO,dd,ew,Bool.toNat_false,Bool.toNat_true]<;>omega
theorem iy:∀{L:IA},(∀x∈L,x.kind=0\/x.kind=1\/x.kind=2\/x.kind=3)->L.length<=5->gA C M L<=30*L.countP P5+8*L.countP Qi+14*L.countP db
 |[],_,_=>m6 _
 |x::L,h,b=>by
  rw[hK] at b;have g:=iy (fun y f=>h y<|ca _ f) FA;rw[gA];grind[Bu,P5,Qi,db,Nat.le_trans]
theorem aQr (hC:C.Ok) (B:dD C N M) (o:RY C M V) (v:Sw C M) (b:l<C.aF):
  mL C M (M.aK l).1<=33*fH (fun i=>(M.aK l).1.aH.countP (Fy P5 i)+By (M.aK l).1 i) C.aB.toNat+11*fH (fun i=>(M.aK l).1.aH.countP<|Fy Qi i) C.aB.toNat+14*qG (M.aK l).1:=by
 have hIn:=o.rX.aI l b
 have g:qG _<=1:=cO (v.sw l b) HM
 have A:=iy (C:=C) (M:=M) (fun x j=>(hIn.jA.aH x j).2.2)<|Im hIn g
 have w:=Gd (p:=P5) (n:=C.aB.toNat) fun x j q=>by
  have:=o.rX.df b j (by have:=cP q;omega);omega
 have y:=Gd (p:=Qi) (n:=C.aB.toNat) fun x j q=>by
  have:=o.rX.df b j (by have:=cP q;omega);omega
 rw[lS]
 have s:nO (M.aK l).1<=17*fH (By (M.aK l).1) C.aB.toNat+(if(M.aK l).1.busy=true/\(M.aK l).1.aX.kind=0 then 1 else 0):=by
  rw[nO];split;rename_i t;split;grind;rename_i u;have⟨i,hi,_,_,hs⟩:=Bf hC o b t.1 t.2 u;have:=aAd (f:=By (M.aK l).1) (k:=i) (n:=C.aB.toNat) FA;grind;grind
 rw[mL]
 have z:qG _=(if(M.aK l).1.busy=true/\(M.aK l).1.aX.kind=0 then 1 else 0)+(M.aK l).1.aH.countP db:=rfl
 omega
theorem aPh (hC:C.Ok) (h:Zs C S N M):ph C M<=976:=by
 have⟨hI,hW,⟨V,hR⟩,hEn,hS⟩:=h.mem;have j:Mi C M+nT C M (dL C M.cB)+P9 C M<=fH (fun c=>170+33*(dL C M.cB).countP (Fy P5 c)+11*(dL C M.cB).countP (Fy Qi c)) C.aB.toNat:=by
  rw[aM4];unfold Mi P9;rw[<-lS,<-lS];refine gY fun c v=>?_;have b:=aIy (c:=c) hC hI hR FA;have t:=aNl (C:=C) (M:=M) (c:=c);omega
 have s:Qc C M<=fH (fun i=>33*fH (fun l=>(M.aK l).1.aH.countP (Fy P5 i)+By (M.aK l).1 i) C.aF+11*fH (fun l=>(M.aK l).1.aH.countP<|Fy Qi i) C.aF) C.aB.toNat+14*fH (fun l=>qG (M.aK l).1) C.aF:=by
  have b:Qc C M<=fH _ C.aF:=gY fun l o=>aQr hC hI hR hS o;rw[lS,lS,vD,vD,vD,Ih,Ih (f:=fun l i=>(M.aK l).1.aH.countP _),<-vD,<-vD,<-lS] at b;exact b
 have p:au C M+14*fH (fun l=>qG (M.aK l).1) C.aF<=30*fH (fun g=>if(M.bH.eI g).isSome then 1 else 0) C.aJ.toNat:=by
  have b:fH (fun l=>qG (M.aK l).1) C.aF<=2*fH (ph2 M.bH) C.aJ.toNat:=by
   rw[<-ff];have u:C.aF=C.aJ.toNat*2:=by rw[bQ.aF];omega
   rw[<-u];exact gY fun l o=>hS.sw l o
  have t:au C M+28*fH (ph2 M.bH) C.aJ.toNat<=30*fH (fun g=>if(M.bH.eI g).isSome then 1 else 0) C.aJ.toNat:=by
   rw[au];rw[<-vD,<-vD,<-lS];refine gY fun g _=>?_;unfold Cb ph2;cases hr:M.bH.eI g with
   |none=>grind
   |some r=>
    grind
  omega
 have w:=aO2 hI hW;have q:fH (fun c=>170+33*(dL C M.cB).countP (Fy P5 c)+11*(dL C M.cB).countP (Fy Qi c)) C.aB.toNat+fH (fun i=>33*fH (fun l=>(M.aK l).1.aH.countP (Fy P5 i)+By (M.aK l).1 i) C.aF+11*fH (fun l=>(M.aK l).1.aH.countP<|Fy Qi i) C.aF) C.aB.toNat<=214*C.aB.toNat:=by
  rw[<-lS,<-Ei];refine gY fun i x=>?_;have⟨a1,a2⟩:=aW7 (i:=i) hC hR FA;omega
 have v:=hC.1;rw[ph];omega
end
variable {A0:AM}
structure FE (C:bQ) (A0:AM) (S:Nat->aT) (P:Nat->ID) (N:Nat) (M:bR):Prop where
 zs:Zs C S N M
 ex:Ex C M
 st:St C P M
 rx:∃V,RX C A0 M V
 sp:∀i:Nat,(i:Int)<C.aB->Ko (P i)
def FE.mK (hC:C.Ok) (h:FE C A0 S P N M):FE C A0 S P (N+2) (M.mK C d).1:=by
 have⟨V,hr⟩:=h.rx;exact⟨h.zs.mK hC,h.ex.mK hC h.zs,h.st.mK hC h.zs.all.inv h.zs.all.lF h.sp,hr.mK hC h.zs.all.inv h.zs.all.lF,h.sp⟩
def FE.yo (hC:C.Ok) (h:FE C A0 S P N M):FE C A0 S P (N+4) (lN C (M,k) d).1:=by
 refine⟨(h.zs.yo hC).1,h.ex.yo hC h.zs,h.st.yo hC h.zs h.sp,?_,h.sp⟩;have b:=h.mK (d:=d) hC;by_cases f:d.mH=1/\d.b=2;rw[Ps f];split;exact b.rx;exact(b.mK (d:=⟨0,d.a,0,0⟩) hC).rx;rw[Bk f];exact b.rx
def FE.aR7 (hC:C.Ok):∀{l:IF} {N:Nat} {M:bR} {k:Nat},FE C A0 S P N M->∃V,RX C A0 (l.foldl (lN C) (M,k)).1 V:=by
 intro l;induction l with
 |nil=>intro N M k h;exact h.rx
 |cons d l b=>
  intro N M k h;exact b<|h.yo hC
theorem FE.round (hC:C.Ok) (h:FE C A0 S P N M):FE C A0 S P (N+400) (M.round C).1:=by
 have b:=Tc hC h.zs h.ex;exact⟨b.zs,b.ex,St.aR7 hC h.sp h.zs h.st,FE.aR7 hC h,h.sp⟩
def mu (C:bQ) (P:Nat->ID) (M:bR):Nat:=1000*(fH (fun i=>(P i).length) C.aB.toNat - M.eY.length)+ph C M
def FE.aUm (hC:C.Ok) (h:FE C A0 S P N M):mu C P M<=1000*fH (fun i=>(P i).length) C.aB.toNat+976:=by
 have:=aPh hC h.zs;rw[mu];omega
def FE.aP8 (hC:C.Ok) (b:2<=C.eG) (h:FE C A0 S P N M) (f:M.over C=false):mu C P (M.round C).1<mu C P M/\0<(M.round C).2:=by
 have g:=h.round hC;have i:=oz hC b h.zs h.ex f;have j:=(Tc hC h.zs h.ex).gr;have l:=aPh hC g.zs;have t1:=g.st.aQg g.zs.all.inv;refine⟨?_,aCy hC b h.zs h.ex f⟩;unfold mu;rcases i with i|i<;>omega
theorem X2 (hC:C.Ok) (b:2<=C.eG):∀{f k N:Nat} {M:bR},FE C A0 S P N M->mu C P M<f->∃i g M',M.yJ C f k=(i,M')/\i<=k+f/\FE C A0 S P g M'/\g<=N+400*f/\M'.over C=true
 |0,_,_,_,_,h=>FA
 |f+1,k,N,M,h,j=>by
  rw[bR.yJ];cases ho:M.over C with
  |true=>grind
  |false=>
   have⟨h1,h2⟩:=h.aP8 hC b ho;have⟨i,g,M',e1,e2,e3,e4,e5⟩:=X2 hC b (f:=f) (k:=k+1) (h.round hC) FA;grind
structure aX6 (C:bQ) (M:bR):Prop where
 B1:∀i:Nat,(i:Int)<C.aB->(M.aD i).over=true/\M.bH.iC (i:Int)=false
 ready:M.ready C=[]
 round:M.round C=(M,0)
theorem aMp (hC:C.Ok) (h:Zs C S N M) (o:M.over C=true):aX6 C M:=by
 have⟨hI,hW,_,_,_⟩:=h.mem;rw[bR.over,ep,ep] at o;obtain⟨⟨z,A⟩,B⟩:=o;have s:∀i:Nat,(i:Int)<C.aB->(M.aD i).over=true:=FB;have f:∀g,M.bH.eI g=none:=fun g=>by
  cases hr:M.bH.eI g with
  |none=>rfl
  |some r=>
   have p:=(hI.bH.run g r hr).2.2.2.1;have⟨x,b,_⟩:=hW.op g r.core (by grind[rc]);grind[aT.kQ]
 have j:M.ready C=[]:=by
  rw[bR.ready];have t:((List.range C.aB.toNat).filter fun i:Nat=> !(M.aD i).over&& !M.aH i)=[]:=BY.2 FB;have e2:((List.range C.aB.toNat).flatMap fun c=>((List.range 4).filter fun w=>decide<|M.cB c w≠[]).map fun w:Nat=>(⟨1,c,w,0⟩:Do))=[]:=by
   cases hq:((List.range C.aB.toNat).flatMap fun c=>((List.range 4).filter fun w=>decide<|M.cB c w≠[]).map fun w:Nat=>(⟨1,c,w,0⟩:Do)) with
   |nil=>rfl
   |cons x l=>
    exfalso;have b:x∈((List.range C.aB.toNat).flatMap fun c=>((List.range 4).filter fun w=>decide<|M.cB c w≠[]).map fun w:Nat=>(⟨1,c,w,0⟩:Do)):=FB
    have⟨c,hc,b⟩:=EG.1 b;have⟨w,hw,_⟩:=eV.1 b;have⟨hw4,hw⟩:=BB.1 hw;cases hl:M.cB c w with
    |nil=>exact(cP hw) hl
    |cons n l=>
     have:n∈M.pg C:=by
      rw[X5];exact qC (c:=c) FB (z2.1 hw4) FB
     grind
  have u:((List.range C.aF).filter fun l=> !(M.aK l).1.busy&&decide ((M.aK l).1.aH≠[]))=[]:=BY.2 FB;have v:((List.range C.aJ.toNat).filter fun g:Nat=>M.gX C g)=[]:=BY.2 fun g y=>by
   grind[bR.gX,Mon.phase,Mon.run]
  grind
 refine⟨fun i q=>⟨s i q,Tf f⟩,j,?_⟩;grind[bR.round]
theorem FE.kD {c:MC} (q:c.tE=0) (b:c.C=C) (j:av C S 0 (MC.kD c)) (p:∀i:Nat,(i:Int)<C.aB->(S i).prog=P i/\(S i).at'=0/\0<=(S i).bA/\(S i).bA<=3) (s:(MC.kD c).aD=S) (f:∀i:Nat,(i:Int)<C.aB->Ko (P i))
  (l:∃V,RX C A0 (MC.kD c) V) (o:∃V,RY C (MC.kD c) V):FE C A0 S P 0 (MC.kD c):=by
 refine⟨⟨j,o,En.kD b,Sw.kD⟩,⟨fun _=>List.Pairwise.nil,fun i g=>?_⟩,⟨fun i g=>?_,fun i g=>?_,m6 _⟩,l,f⟩
 .grind
 .grind
 grind
end Go.Mc
variable {L L':IB} {Q:Value->AH->Prop} {m pm:Nat} {ov pv vv:Value} {os vs:EV}
section
attribute [local irreducible] cE Br xE zJ Ba K1 sO D9 sF na mC tH yM yV yE pR Be dr bf dm Xy bu py qY vS oL nR Fs Qe rE Xn lz Hj Cl E5 pw A9 zV qJ kI fJ dX
namespace Go.Proofs.Z
open Go.Hm Go.At Go.Mc Go.Ct Go.Nt Go.Is
def F3 (ps:List (ID)):Nat:=(ps.map List.length).sum
def aGr:∀{ps:List (ID)},fH (fun i=>(ps.getD i []).length) ps.length=F3 ps:=by
 intro ps;have:∀(n:Nat) (l:List (ID)),l.length=n->fH (fun i=>(l.getD i []).length) n=F3 l:=by
  intro n;induction n with
  |zero=>intro l f;rw[g6 f];rfl
  |succ n p=>
   intro l f;have o:l≠[]:=fun e=>by rw[e] at f;cases f
   obtain⟨b,x,rfl⟩:∃b x,l=b++[x]:=⟨_,_,(List.dropLast_concat_getLast o).symm⟩;have j:b.length=n:=HT
   show fH _ n+_=_;rw[nM (g:=fun i=>(b.getD i []).length) fun i q=>by
    show((b++[x]).getD i []).length=_;rw[aP,aP,q5 FA]]
   rw[p b j];unfold F3;show _+((b++[x]).getD n []).length=_;rw[kt,CC,aP,oX FA,j,BF];simp
 exact this _ ps rfl
variable {P:Nat->ID}
variable {G:Bg} {h:AH} {Cf:bQ} {M:bR} {S:Nat->aT} {A0:AM}
def aCo {p:ID} {a:Nat} {x:iD} (h:p[a]?=some x):mX p (a:Int)=x:=by
 unfold mX;rw[aM,aP,h];rfl
variable {ps:List (ID)}
def Pw {wv:Value} {ws:EV} (hn:ps.length<=9223372036854775807) (D:∀p∈ps,p.length<=9223372036854775807) (ho:A.Nx G pv wv ov vv ps ws os vs) (g:Hs G h L)
  (k1:(∀p∈ps,Ko p)->∀h',Hs G h' L->Q (.bool true) h') (k2:¬(∀p∈ps,Ko p)->∀h',Hs G h' L->Q (.bool false) h'):IU 4 [.agg ⟨Co Cf pv wv ov vv⟩] h Q:=by
 obtain⟨⟨vi,hv,E,B⟩,_,_,_⟩:=ho
 have lp:∀{k:Value->Prop},k (I ps.length)->cE (pR pv) k:=fun hk=>A.qQ E (by simpa [hv] using hk)
 refine cW<|eT g fun p2 h g=>aA<|am p2 g (v:=pv) rfl<|lp ?_
 have g:=g.tail
 have inner:∀(i:Nat) (v:Value) (p:ID),p∈ps->p.length<=9223372036854775807->A.Rv G v p->(∀h,Hs G h L->Ko p->Dd 4 5 [] Q [.bool true,pv,I ps.length,I i] h)->∀(f a:Nat) (h:AH),a+f=p.length->(∀b:Int,0<=b->b<a->((mX p b).op=9->b<(mX p b).a)/\((mX p b).op=10->b<(mX p b).b))->Hs G h L->
   Dd 4 3 [] Q [.bool true,pv,I ps.length,I i,v,I p.length,I a] h:=by
  intro i v p Z D s kk f
  induction f with
  |zero=>
   intro a h ha w g
   exact bW (bE<|aab<|kk h g fun b J h1=>w b J FA)
  |succ f ih=>
   intro a h ha w g
   obtain⟨x,hx,_⟩:=rK (l:=p) (i:=a) FA
   have z:=aCo hx
   have ε:a<p.length:=FA
   have k3:¬((x.op=9->(a:Int)<x.a)/\(x.op=10->(a:Int)<x.b))->∀h',Hs G h' L->Q (.bool false) h':=fun hn=>k2 fun h=>hn (by have:=h p Z a FA FA;rwa [z] at this)
   have next:((x.op=9->(a:Int)<x.a)/\(x.op=10->(a:Int)<x.b))->∀h,Hs G h L->Dd 4 3 [] Q [.bool true,pv,I ps.length,I i,v,I p.length,I<|(a:Int)+1] h:=fun O h g=>by
    have R:((a:Int)+1)=((a+1:Nat):Int):=FA
    rw[R];refine ih (a+1) h FA (fun b J h1=>?_) g;by_cases e:b=(a:Int);rw[e,z];exact O;exact w b J FA
   refine bW<|bE<|aae<|bW<|aC4 (A.Qx s g) FC (x:=x.enc) (by unfold A.Zp;rw[km,hx];rfl)<|cK g fun t h g=>ax (b:=t) g fun h g=>?_
   have c0:∀h,Hs G h (aN t 0 x.enc::L)->((x.op=9->(a:Int)<x.a))->cE (mC 0<|IV t) fun v8=>cE (xE h v8) fun v9=>cE (Be .eql v9<|I 10) fun v10=>Br v10 (cE (mC 2<|IV t) fun v11=>cE (xE h v11) fun β=>cE (Be .leq β<|I a) fun γ=>Br γ (Dd 4 6 [] Q [] h)<|Dd 4 7 [] Q [.bool true,pv,I ps.length,I i,v,I p.length,I a] h) (cE (Be .add (I a)<|I 1) fun δ=>Dd 4 3 [] Q [.bool true,pv,I ps.length,I i,v,I p.length,δ] h):=fun h g O=>by
    refine aA<|am t g (v:=I x.op) rfl<|cC<|bG (fun u=>?_) fun u=>aad<|next ⟨O,fun e=>absurd e u⟩ _ g.tail;refine aA<|am t g (v:=I x.b) rfl<|Ak<|bG (fun hle=>bW<|k3 (fun h=>by have:=h.2 u;omega) _ g.tail) fun U=>bW<|aad<|next ⟨O,fun _=>FA⟩ _ g.tail
   refine aA<|am t g (v:=I x.op) rfl<|cC<|bG (fun T=>?_) fun T=>c0 _ g fun e=>absurd e T
   exact aA<|am t g (v:=I x.a) rfl<|Ak<|bG (fun hle=>k3 (fun h=>by have:=h.1 T;omega) _ g.tail) fun U=>c0 _ g fun _=>FA
 have outer:∀(f i:Nat) (h:AH),i+f=ps.length->(∀j,j<i->∀p,ps[j]?=some p->Ko p)->Hs G h L->Dd 4 1 [] Q [.bool true,pv,I ps.length,I i] h:=by
  intro f;induction f with
  |zero=>
   intro i h hi w g;refine bW<|bE<|aab<|k1 (fun p s=>?_) h g;obtain⟨j,X,Y⟩:=List.getElem_of_mem s;exact w j FA p (by rw[bj X,Y])
  |succ f ih=>
   intro i h hi w g;obtain⟨p,s,_⟩:=rK (l:=ps) (i:=i) FA;obtain⟨v,y,_⟩:=rK (l:=vi) (i:=i) FA;refine bW (bE<|aae<|bW<|Cz (Ew (e:=3) FF E g) (x:=[v]) (by simp[y]) rfl<|A.qQ (B i v p y s) ?_);rw[A.Gw];refine inner i v p (hX s) (D p<|hX s) (B i v p y s) (fun h g H=>bW<|aad ?_) p.length 0 h FA (fun b J h1=>FA) g;have R:((i:Int)+1)=((i+1:Nat):Int):=FA
   rw[R];refine ih (i+1) h FA (fun j X q hq=>?_) g;by_cases e:j=i;rw[e,s] at hq;cases hq;exact H;exact w j FA q hq
 exact(outer ps.length 0 h FA (fun j X=>FA) g)
def Sc {B:Value} {ws:EV} (X:ps.length<=1000) (H:∀p∈ps,p.length<=1000) (J:A.Nx G pv B ov vv ps ws os vs) (g:Hs G h L)
  (u:∀h',Hs G h' L->Q (I<|1000*((2+F3 ps:Nat):Int)) h'):IU 8 [.agg ⟨Co Cf pv B ov vv⟩] h Q:=by
 obtain⟨⟨U,R,j,w⟩,_,_,_⟩:=J
 have lp:∀{k:Value->Prop},k (I ps.length)->cE (pR pv) k:=fun u=>A.qQ j (by simpa [R] using u)
 have up:∀i,F3 (ps.take i)<=1000*i:=fun i=>by
  induction i with
  |zero=>exact m6 _
  |succ i t=>
   by_cases s:i<ps.length;rw[AE,bj s];unfold F3 at t ⊢;rw[kt,CC];have:=H ps[i] (v7 s);simp only[Option.toList_some,kd,CT,EF,List.sum_nil];omega;rw[e6 FA] at t ⊢;omega
 refine cW<|eT g fun T h g=>aA<|am T g (v:=pv) rfl<|lp ?_
 have g:=g.tail
 have outer:∀(f i:Nat) (h:AH),i+f=ps.length->Hs G h L->Dd 8 1 [] Q [I ((2+F3 (ps.take i):Nat):Int),pv,I ps.length,I i] h:=by
  intro f;induction f with
  |zero=>
   intro i h s g;have z:=up i;rw[e6 FA] at z ⊢;exact bW (bE<|aab<|Hc FA<|u h g)
  |succ f t=>
   intro i h s g;obtain⟨p,y,_⟩:=rK (l:=ps) (i:=i) FA;obtain⟨v,q,_⟩:=rK (l:=U) (i:=i) FA;have z:=up i;have O:=up<|i+1;have e2:F3 (ps.take<|i+1)=F3 (ps.take i)+p.length:=by
    rw[AE,y];unfold F3;rw[kt,CC];simp
   refine bW (bE<|aae<|bW<|Cz (Ew (e:=3) FF j g) (x:=[v]) (by simp[q]) rfl<|A.qQ (w i v p q y) ?_);rw[A.Gw];have D:((i:Int)+1)=((i+1:Nat):Int):=FA
   have E:((2+F3 (ps.take i):Nat):Int)+p.length=((2+F3 (ps.take<|i+1):Nat):Int):=FA
   refine aad<|aad ?_;rw[D,E];exact t (i+1) h FA g
 exact outer ps.length 0 h FA g
end Go.Proofs.Z
namespace Go.Proofs.Z.A
open Go.Hm Go.At Go.Is
variable {G:Bg} {h:AH}
variable {ps:List (ID)}
def y3 {C:bQ} {ws:EV} (h:tE C ps ws os vs=0):(B8 C ps ws os vs).Ok:=by
 unfold tE at h;split at h;cases h;rename_i hC;split at h;cases h;rename_i q;split at h;rename_i g;exact absurd h g;rename_i g;refine⟨show C.Ok by simpa using hC,fun i j=>?_,?_⟩;have f:i<ps.length:=by have:(i:Int)<C.aB:=j;omega
 have o:ps.getD i []∈ps:=by rw[aP,bj f];exact v7 _
 have b:=C6 HO _ o;have l:=H2 b;refine⟨show(0:Int)<=0 by decide,show(0:Int)<=32 by decide,rfl,l,fun x p=>?_⟩;unfold rF at b;rw[aaa] at b;exact q7 _ _ b x p;show(os.length:Int)=C.aJ;omega
def aLv {m:AM} (q:m.Ok) (z:(i:Int)<m.fG.aB) (f:Hs G h L) [x:eB (vC G pm) L m L']
  (w:∀h',Hs G h' (vC G pm m::L')->Q (.tuple ⟨[.agg ⟨(m.aD i).core⟩,I 0]⟩) h'):IU 48 [IV pm,I i] h Q:=by
 have v:m.fG.aB<=4/\1<=m.fG.aB:=⟨q.fG.1.2,q.fG.1.1⟩
 have g:i<m.fG.aB.toNat:=FA
 obtain⟨b,o,p,a,c,s,f⟩:=Gz<|x.of f
 refine cW<|cK f fun p1 h f=>dM<|cS<|bW ?_
 refine aC<|aA<|am pm f rfl<|dB<|Aa FA<|aZ (c:=[I i]) rfl<|dV f rfl rfl rfl fun y h f=>rB f fun h f=>cX<|fM<|aae ?_
 refine aC<|aA<|am pm f rfl ?_
 have f:=(f.bF<|eP m.fG.aB.toNat fun i=>lD b (o+i*8)<|m.aD i).oI i g
 obtain⟨t,u,f⟩:=X4 f
 refine fD g<|aA<|bB (b:=b) (o:=o+i*8) f FC (l:=(m.aD i).core) rfl rfl<|ax (b:=p1) (o:=0) f fun h f=>an p1 f (l:=(m.aD i).core) rfl rfl<|w _ ?_
 have f:=Aw<|f.dC (aN b (o+i*8)<|(m.aD i).core++[.slice t (m.aD i).prog.length u])<|dY 4 49 t u ((m.aD i).prog.length,yP (m.aD i).prog)
 have f:=f.qN (n:=m.fG.aB.toNat) (i:=i) (fun j=>lD b (o+j*8)<|m.aD j) (fun j=>lD b (o+j*8)<|m.aD j) g fun _ _ _=>rfl
 exact rM (b:=b) (o:=o) (cap:=p) (a:=a) (c:=c) (mb:=s) f.to
def Lp {m:AM} (j:m.Ok) (v:(i:Int)<m.fG.aJ) (f:Hs G h L) [t:eB (vC G pm) L m L']
  (q:∀h',Hs G h' (vC G pm m::L')->Q (.tuple ⟨[I<|m.dA.getD i 0,I 0]⟩) h'):IU 50 [IV pm,I i] h Q:=by
 have p:m.fG.aJ<=16:=j.fG.2.1.2
 have s:=j.dA
 obtain⟨b,o,g,a,c,l,f⟩:=Gz<|t.of f
 refine cW<|dM<|cS<|bW ?_
 refine aC<|aA<|am pm f rfl<|dB<|Aa FA<|aZ (c:=[I i]) rfl<|dV f rfl rfl rfl fun u h f=>rB f fun h f=>cX<|fM<|aae ?_
 refine aC<|aA<|am pm f rfl<|Yl (e:=3) (cs:=m.dA.map I) f (s5 FA)<|q _ ?_
 exact rM (b:=b) (o:=o) (cap:=g) (a:=a) (c:=c) (mb:=l) f
def J8 {m:AM} (s:m.Ok) (l:i<m.fG.aF*2) (q:Ob G 0 iF) (f:Hs G h L) [t:eB (vC G pm) L m L']
  (p:∀h',Hs G h' (vC G pm m::L')->Q (.tuple ⟨[I<|Cw m.mem i,I 0]⟩) h'):IU 51 [IV pm,I i] h Q:=by
 obtain⟨b,o,g,a,c,j,f⟩:=Gz<|t.of f
 refine cW<|dM<|cS<|aC<|aA<|am pm f rfl ?_
 refine Xr s.fG q f l fun h f=>aQ rfl<|aQ rfl<|p _ ?_
 exact rM (b:=b) (o:=o) (cap:=g) (a:=a) (c:=c) (mb:=j) f.to
end Go.Proofs.Z.A
end
variable {j lv:Value} {b n:Nat}
namespace Go.Proofs.Z.A
open Go.Hm Go.At Go.Is
def aSu {a n:Ev} {k:Value->Prop} (f:k (.bool<|decide<|a≠n)) {b:Bool} (hc:b=true:=by kernel_rfl):bu b [0,0,0,0,0,0,0] .neq (.agg ⟨a.enc⟩) (.agg ⟨n.enc⟩) k:=by
 refine⟨hc,_,?_,f⟩;cases a;cases n;simp[Xy,vW,Zb,eqn,Ev.enc];rw[Bool.eq_iff_iff];simp
def aH7 {f:FuncId} {o j:Nat}:uG (.func (.func f) #[pt b o j] #[]) (.func (.func f) #[pt b o j] #[])=true:=by simp[uG,bq,S7,pt]
attribute [local irreducible] cE Br xE zJ Ba K1 sO D9 sF na mC tH yM yV yE pR Be dr bf dm Xy bu py qY vS oL nR Fs Qe rE Xn lz Hj Cl E5 pw A9 zV qJ kI fJ dX
variable {G:Bg} {h:AH}
structure RdE (G:Bg) (A:HP) (lv:Value) (l:IM):Prop where
 rd:∀{h:AH} {L L':IB} {k:Value->Prop} {i:Nat} {x:Ev},Hs G h L->[fU A L L']->l[i]?=some x->k (.agg ⟨x.enc⟩)->cE (qY 7 lv<|I i) fun p=>cE (zJ h 7 p) k
 len:∀{k:Value->Prop},k (I l.length)->cE (pR lv) k
def vu {A:HP} {l:IM} (D:RdE G A lv l) (B:Ob G 0 iF) (O:l.length<=10000):
  ∀(f i:Nat) (m:AM) (pm n:Nat) (h:AH),i+f=l.length->n<=i->m.Ok->Hs G h (vC G pm m::A::L)->
  (∀p h',Hs G h' (vC G p (jI m (l.drop i) n).1::A::L)->Q (.tuple ⟨[IV p,I (jI m (l.drop i) n).2.1,I (jI m (l.drop i) n).2.2]⟩) h')->
  Dd 46 1 [] Q [IV pm,I n,I 0,lv,I l.length,I i] h:=by
 intro f
 induction f with
 |zero=>
  intro i m pm n h z v t j q
  rw[eg FA,jI] at q
  exact bW (bE<|aab<|q pm _ j)
 |succ f H=>
  intro i m pm n h z v t j q
  obtain⟨x,E,y⟩:=sB (l:=l) (i:=i) FA
  rw[y,jI] at q
  refine bW<|bE<|aae<|bW<|D.rd j (i:=i) E<|cK j fun u h j=>ax (b:=u) (o:=0) j fun h j=>?_
  refine uh t j fun J h j=>aA<|am u j rfl<|aA<|am u j rfl<|cC ?_
  refine aOm t B j fun h j=>aQ rfl<|aQ rfl<|cK j fun s h j=>ax (b:=s) (o:=0) j fun h j=>?_
  have w:decide (x.code=17)=xX x:=rfl
  rw[w] at j ⊢
  refine cC<|bG (fun c=>?_) fun c=>?_
  .refine bW ?_;have e:Ny m x=20:=by unfold Ny;rw[bA1 c]
   rw[aac,e] at q
   exact q pm _ j.to
  refine bW<|bU<|bG (fun d=>?_) fun d=>?_
  .have e:Ny m x=16:=by unfold Ny;rw[bA0 c,bA1<|.inl d]
   rw[aac,e] at q
   exact q pm _ j.to
  refine an s j (l:=(m.step x.core<|xX x).2.1.enc) rfl rfl<|an u j (l:=x.enc) rfl rfl<|aSu<|bG (fun g=>?_) fun g=>?_
  .refine bW ?_;have e:Ny m x=16:=by unfold Ny;rw[bA0 c,bA1<|.inr g]
   rw[aac,e] at q
   exact q pm _ j.to
  .have e:Ny m x=0:=by
    unfold Ny;rw[bA0 c,bA0];rintro (h|h);exact d h;exact g h
   rw[aaa] at q
   refine bW<|aad<|aad ?_
   exact H (i+1) _ J (n+1) h FA FA (xu t _ _) j.to q
def aGw {A:HP} {l:IM} {m:AM} (i:m.Ok) (b:RdE G A lv l) (g:Ob G 0 iF) (j:l.length<=10000) (o:Hs G h (vC G pm m::A::L))
  (f:∀p h',Hs G h' (vC G p (jI m l 0).1::A::L)->Q (.tuple ⟨[IV p,I (jI m l 0).2.1,I (jI m l 0).2.2]⟩) h'):IU 46 [IV pm,lv] h Q:=
 cW (b.len<|vu b g j l.length 0 m pm 0 h FA FA i o f)
def dw:∀(l:IM) (m:AM) (n:Nat),m.Ok->(jI m l n).1.Ok/\(jI m l n).1.fG=m.fG
 |[],m,n,b=>⟨b,rfl⟩
 |x::l,m,n,b=>by
  rw[jI];split;exact⟨b,rfl⟩;have:=dw l (m.step x.core<|xX x).1 (n+1)<|xu b _ _;exact⟨this.1,this.2.trans aI3⟩
def Pq {A:HP} {g:Value} {F:Nat->Int} (t:n<=1000) (o:∀i,i<n->∀(h:AH) (L:IB) (Q:Value->AH->Prop),Hs G h (A::L)->(∀h',Hs G h' (A::L)->Q (.tuple ⟨[I<|F i,I 0]⟩) h')->E5 Pr K g [I i] h Q)
  (b:Hs G h (A::L)) (q:∀a c h',Hs G h' (dY 1 3 a c (n,(List.range n).map fun i=>I<|F i)::A::L)->Q (.slice a n c) h'):IU 49 [I n,g] h Q:=by
 have loop:∀(f i:Nat) (a:EX) (c:Nat) (h:AH),i+f=n->Hs G h (dY 1 3 a c (i,(List.range i).map fun i=>I<|F i)::A::L)->Dd 49 1 [] Q [g,.slice a i c,I n,I i] h:=by
  intro f;induction f with
  |zero=>
   intro i a c h p b;obtain rfl:i=n:=FA
   exact bW (bE<|aab<|q _ _ _ b)
  |succ f s=>
   intro i a c h p b;refine bW<|bE<|aae<|bW<|o i FA h _ _ b.pS fun h b=>aQ rfl<|aQ rfl<|bU<|aab<|bW ?_;refine aZ (c:=[I<|F i]) rfl<|dV b rfl rfl rfl fun a3 h b=>?_;refine tG (a:=a) (c:=c) (n:=i) (a2:=some a3) (c2:=1) (m:=1) b FA fun j l h b=>?_;dsimp only;refine aad<|s (i+1) j l h FA ?_;have e:(List.range i).map (fun i=>I<|F i)++[I<|F i]=(List.range<|i+1).map fun i=>I (F i):=by rw[dx,kt];rfl
   rw[e] at b;exact b.to
 exact cW<|loop n 0 none 0 h FA<|jO b
def lr {A:HP} {F:Nat->aT} (x:n<=1000) (t:∀i,i<n->∀(h:AH) (L:IB) (Q:Value->AH->Prop),Hs G h (A::L)->(∀h',Hs G h' (A::L)->Q (.tuple ⟨[.agg ⟨(F i).core⟩,I 0]⟩) h')->E5 Pr K j [I i] h Q)
  (g:Hs G h (A::L)) (v:∀a c h',Hs G h' (dY 7 39 a c (n,(List.range n).flatMap fun i=>(F i).core)::A::L)->Q (.slice a n c) h'):IU 24 [I n,j] h Q:=by
 have loop:∀(f i:Nat) (a:EX) (c:Nat) (h:AH),i+f=n->Hs G h (dY 7 39 a c (i,(List.range i).flatMap fun i=>(F i).core)::A::L)->Dd 24 1 [] Q [j,.slice a i c,I n,I i] h:=by
  intro f;induction f with
  |zero=>
   intro i a c h u g;obtain rfl:i=n:=FA
   exact bW (bE<|aab<|v _ _ _ g)
  |succ f w=>
   intro i a c h u g;refine bW<|bE<|aae<|bW<|t i FA h _ _ g.pS fun h g=>aQ rfl<|aQ rfl<|cK g fun p h g=>ax (b:=p) (o:=0) g fun h g=>bU<|aab<|bW ?_;refine an p g (l:=(F i).core) rfl rfl<|aZ (c:=(F i).core) rfl<|dV g rfl rfl rfl fun a3 h g=>?_;refine tG (a:=a) (c:=c) (n:=i) (a2:=some a3) (c2:=1) (m:=1) g FA fun q s h g=>?_;dsimp only;refine aad<|w (i+1) q s h FA ?_;have e:(List.range i).flatMap (fun i=>(F i).core)++(F i).core=(List.range<|i+1).flatMap fun i=>(F i).core:=by rw[dx,l9];simp
   rw[e] at g;exact g.to
 exact cW<|loop n 0 none 0 h FA<|jO g
end Go.Proofs.Z.A
variable {a a1 a2 al:EX} {f:Nat->EU} {e:TypeId} {cs:EU}
section
attribute [local irreducible] cE Br xE zJ Ba K1 sO D9 sF na mC tH yM yV yE pR Be dr bf dm Xy bu py qY vS oL nR Fs Qe rE Xn lz Hj Cl E5 pw A9 zV qJ kI fJ dX
namespace Go.Proofs.Z.A
open Go.Hm Go.At Go.Is
variable {G:Bg} {h:AH}
abbrev cfE (C:bQ) (pv b ov vv:Value):EU:=C.enc++[pv,b,ov,vv]
variable {C:bQ} {ps:List (ID)}
def U2 {g:Value} {ws:EV} (q:ps.length<=1000000/\ws.length<1000000/\os.length<1000000) (j:Ob G 0 iF) (i:Ob G 1 xT) (s:Nx G pv g ov vv ps ws os vs) (f:Hs G h L)
  (t:tE C ps ws os vs≠0->∀h',Hs G h' L->Q (.tuple ⟨[.pointer none,I<|tE C ps ws os vs]⟩) h')
  (u:tE C ps ws os vs=0->∀p h',Hs G h' (vC G p (B8 C ps ws os vs)::L)->Q (.tuple ⟨[IV p,I 0]⟩) h'):IU 45 [.agg ⟨cfE C pv g ov vv⟩] h Q:=by
 refine cW<|eT f fun p h f=>aA<|bB f FC (l:=C.enc) rfl rfl<|aA<|am p f rfl<|aA<|am p f rfl<|aA<|am p f rfl<|aA<|am p f rfl ?_
 refine aJn q j i s f (fun e h f=>aQ rfl<|aQ rfl<|t e _ f.tail) fun e v h f=>aQ rfl<|aQ rfl<|u e v _ f.to
abbrev aPe (m:AM):EU:=(List.range m.fG.aB.toNat).flatMap fun i=>(m.aD i).core
abbrev aW1 (m:AM):EU:=(List.range m.fG.aJ.toNat).map fun i=>I<|m.dA.getD i 0
abbrev aPj (m:AM):EU:=(List.range<|m.fG.aF*2).map fun i=>I<|Cw m.mem i
def aPy (G:Bg) (m:AM) (L:IB) (Q:Value->Value->Value->AH->Prop):Prop:=∀a1 f b c2 a3 c3 h',Hs G h' (dY 7 39 a1 f (m.fG.aB.toNat,aPe m)::dY 1 3 b c2 (m.fG.aJ.toNat,aW1 m)::dY 1 3 a3 c3 (m.fG.aF*2,aPj m)::L)->
 Q (.slice a1 m.fG.aB.toNat f) (.slice b m.fG.aJ.toNat c2) (.slice a3 (m.fG.aF*2) c3) h'
theorem aMm {wv:Value} {m:AM} {p2 f:Nat} (s:m.Ok) (hc:m.fG=C) (hl:Ob G 0 iF) (J:N1 G vv vs) (R:vs.length=C.aF*2)
  (j:Hs G h (vC G pm m::aN p2 0 (cfE C pv wv ov vv)::aN f 0 [IV pm]::L)) (u:aPy G m L fun x y z h'=>Q (.agg ⟨[I n,x,y,z]⟩) h'):IU 47 [I n,IV p2,IV f] h Q:=by
 subst hc
 have γ:=bQ.fC s.fG
 have Z:m.fG.aB<=4/\1<=m.fG.aB:=⟨s.fG.1.2,s.fG.1.1⟩
 have β:m.fG.aJ<=16/\1<=m.fG.aJ:=⟨s.fG.2.1.2,s.fG.2.1.1⟩
 have hC:((m.fG.aB.toNat:Nat):Int)=m.fG.aB:=FA
 have w:((m.fG.aJ.toNat:Nat):Int)=m.fG.aJ:=FA
 refine cW<|cK j fun p1 h j=>bI j fun rv h2 g=>?_
 refine aA<|aA<|am p2 g (v:=I m.fG.aB) rfl<|am f g rfl ?_
 rw[<-hC]
 refine lr (A:=vC G pm m) (F:=m.aD) FA (fun i O h L Q j u=>qB rfl<|aLv s FA j u) (g.bF<|vC G pm m) fun a1 H h8 q=>?_
 refine aA<|aA<|am p2 q (v:=I m.fG.aJ) rfl<|am f q rfl ?_
 rw[<-w]
 refine Pq (A:=vC G pm m) (F:=fun i=>m.dA.getD i 0) FA (fun i O h L Q j u=>qB rfl<|Lp s FA j u) (q.bF<|vC G pm m) fun E c2 U p=>?_
 refine aA<|am p2 p (v:=vv) rfl<|qQ J ?_
 rw[uK,R]
 refine am f p rfl ?_
 refine Pq (A:=vC G pm m) (F:=fun i=>Cw m.mem i) FA (fun i O h L Q j u=>qB rfl<|J8 s FA hl j u) (p.bF<|vC G pm m) fun a3 c3 X B=>?_
 refine aZ (c:=[I n,.slice a1 m.fG.aB.toNat H,.slice E m.fG.aJ.toNat c2,.slice a3 (m.fG.aF*2) c3]) rfl<|ax (b:=p1) (o:=0) B fun Y t=>?_
 have T:∀(c:Nat),cE (pR vv) fun v=>uG v (I (m.fG.aF*2:Nat))=true:=fun _=>qQ J (by rw[uK,R];exact jF)
 have D:uG vv vv=true:=by obtain⟨a,c,rfl,_⟩:=J;exact Ls
 refine cR jF<|cR jF<|cR jF<|cR (aA dG)<|cR (aA dG)<|cR (am p2 g (v:=I m.fG.aJ) rfl<|by rw[w];exact jF)<|cR (am f g rfl dG)<|cR aH7 ?_
 refine cR (aA dG)<|cR (aA dG)<|cR (am p2 g (v:=vv) rfl D)<|cR (am p2 q (v:=vv) rfl D)<|cR (T 0)<|cR (T 0)<|cR (am f g rfl dG)<|cR (am f q rfl dG)<|cR aH7<|cR aH7 ?_
 refine an p1 t (l:=[I n,.slice a1 m.fG.aB.toNat H,.slice E m.fG.aJ.toNat c2,.slice a3 (m.fG.aF*2) c3]) rfl rfl ?_
 have j:=t.dR (dY 7 39 a1 H (m.fG.aB.toNat,aPe m)) (dY 1 3 E c2 (m.fG.aJ.toNat,aW1 m))<|dY 1 3 a3 c3 (m.fG.aF*2,aPj m)
 exact u a1 H E c2 a3 c3 _ j.to
structure RA (G:Bg) (A:HP) (C:bQ) (pv wv ov vv lv:Value) (ps:List (ID)) (ws os vs:EV) (l:IM):Prop where
 n:ps.length<=1000000/\ws.length<1000000/\os.length<1000000
 Ng:Ob G 0 iF
 ops:Ob G 1 xT
 m:Nx G pv wv ov vv ps ws os vs
 e:RdE G A lv l
 en:l.length<=10000
def wg {ws:EV} (h:tE C ps ws os vs=0):vs.length=C.aF*2:=by
 unfold tE at h;split at h;cases h;split at h;cases h;omega
def sq {q:Value} {ws:EV} {l:IM} {A:HP} (i:RA G A C pv q ov vv lv ps ws os vs l) (f:Hs G h (A::L))
  (B:tE C ps ws os vs≠0->∀h',Hs G h' (A::L)->Q (.tuple ⟨[.agg ⟨[I 0,.slice none 0 0,.slice none 0 0,.slice none 0 0]⟩,I<|tE C ps ws os vs]⟩) h')
  (D:tE C ps ws os vs=0->aPy G (jI (B8 C ps ws os vs) l 0).1 (A::L) fun x y z h'=>Q (.tuple ⟨[.agg ⟨[I (jI (B8 C ps ws os vs) l 0).2.1,x,y,z]⟩,I (jI (B8 C ps ws os vs) l 0).2.2]⟩) h'):IU 20 [.agg ⟨cfE C pv q ov vv⟩,lv] h Q:=by
 refine cW<|eT f fun w h f=>cK f fun p h f=>an w f (l:=cfE C pv q ov vv) rfl rfl ?_
 refine U2 i.n i.Ng i.ops i.m f (fun e h f=>?_) fun e pm h f=>?_
 .refine aQ rfl (aQ rfl<|cK f fun g h f=>ax (b:=g) (o:=0) f fun h f=>bU<|cI e<|aZ (c:=[I 0,.slice none 0 0,.slice none 0 0,.slice none 0 0]) rfl<|ax (b:=p) (o:=0) f fun h f=>an p f (l:=[I 0,.slice none 0 0,.slice none 0 0,.slice none 0 0]) rfl rfl<|B e _ f.to)
 .refine aQ rfl (aQ rfl<|cK f fun g h f=>ax (b:=g) (o:=0) f fun h f=>bU<|aab<|bW<|am g f rfl ?_);refine aGw (y3 e) i.e i.Ng i.en (f.dC (vC G pm<|B8 C ps ws os vs) A) fun j h f=>aQ rfl<|aQ rfl<|aQ rfl<|ax (b:=g) (o:=0) f fun h f=>?_;obtain⟨t,s⟩:=dw l (B8 C ps ws os vs) 0<|y3 e;have f:=f.dR (vC G j (jI (B8 C ps ws os vs) l 0).1) (aN w 0<|cfE C pv q ov vv)<|aN g 0 [IV j];refine qB rfl<|aMm (C:=C) t s i.Ng i.m.vs (wg e) f fun a1 v u c2 a3 c3 h f=>?_;refine ax (b:=p) (o:=0) f fun h f=>an p f (l:=[I (jI (B8 C ps ws os vs) l 0).2.1,.slice a1 (jI (B8 C ps ws os vs) l 0).1.fG.aB.toNat v,.slice u (jI (B8 C ps ws os vs) l 0).1.fG.aJ.toNat c2,.slice a3 ((jI (B8 C ps ws os vs) l 0).1.fG.aF*2) c3]) rfl rfl<|D e a1 v u c2 a3 c3 _ f.to
end Go.Proofs.Z.A
namespace Go.Proofs.Z
open Go.Hm Go.At Go.Mc Go.Ct Go.Nt Go.Is
variable {Cf:bQ} {F S:Nat->aT} {P:Nat->ID} {A0:AM}
section
def aQx {C:bQ} {a3 a4:EX} {n1 j c2 c3 f:Nat}:uG (.agg ⟨Co C (.slice a1 n1 b) (.slice a2 g c2) (.slice a3 i c3)<|.slice a4 j f⟩) (.agg ⟨Co C (.slice a1 n1 b) (.slice a2 g c2) (.slice a3 i c3)<|.slice a4 j f⟩)=true:=by
 simp[uG,bq,S7,Co,bQ.enc]
variable {G:Bg} {h:AH} {M:bR}
def aP2 {l:IM}:A.RdE G (Q5 a c l) (.slice a l.length c) l:=by
 refine⟨fun {h L L' k i x} f j g b=>?_,fun b=>dB b⟩;have f:Hs G h (Q5 a c l::L'):=f.cH j.cH;exact Ac (l:=l) (a:=a) (c:=c) (enc:=Ev.enc) (e:=68) f FC FA (by rw[aM];exact g) b
abbrev apX (p:Nat) (e:Nat->Value) (d l:Nat) (done:IM):HP:=A5 fun x:EX×Nat=>sp [pG Pr 52 (qM 26) 13 e d l (.ready,none),aN p 0 [.slice x.1 done.length x.2],Q5 x.1 x.2 done]
def aF6 {q cl:Nat} {l0:IM} (j:l0.length<100000) (f:Hs G h (veR q al cl l0::L)) (y:∀a c h',Hs G h' (Q5 a c l0::veR q al cl l0::L)->Q (.slice a l0.length c) h'):
  IU 21 [.func (.func 86) #[] #[IV q]] h Q:=by
 refine cW<|cW<|eT f fun p h f=>oE f fun d h f=>?_
 intro e w
 refine rI f fun l h f=>xQ rfl ?_
 have f:=wY (enc:=Ev.enc) (e:=68) f
 have f:Hs G h (veR q al cl l0::apX p e d l []::mk d ()::L):=by
  have f:=(f.dR (pG Pr 52 (qM 26) 13 e d l (.ready,none)) (aN p 0 [.slice none 0 0])<|Q5 none 0 []).Vc;have f:=Hs.Cn (A:=fun x:EX×Nat=>sp [pG Pr 52 (qM 26) 13 e d l (.ready,none),aN p 0 [.slice x.1 ([]:IM).length x.2],Q5 x.1 x.2 []]) (none,0) f;exact f.to
 refine(aXy (q:=q) (a:=al) (c:=cl) (l:=l0) FA).Nf (X:=fun done=>apX p e d l done) (Z:=fun _ _=>Dm False) f ?_ ?_ ?_
 .intro done x h T s f;have u:done.length<100000:=by have:=s.length_le;simp at this;omega
  obtain⟨⟨a,c⟩,f⟩:=f.Fl
  have f:=f.E4
  refine rW (yH f) w<|cK f fun p1 h f=>ax (b:=p1) f fun h f=>kY f fun h f=>am p f rfl<|an p1 f (l:=x.enc) rfl rfl<|aZ (c:=x.enc) rfl<|dV (W:=7) (n:=1) (c:=1) f rfl rfl rfl fun B h f=>?_
  have f:=tB (enc:=Ev.enc) (x:=x) f
  refine aa (l:=done) (v:=x) (a:=a) (c:=c) FA f fun g i h f=>ax (b:=p) f fun h f=>lJ f fun h f=> .inl ⟨rfl,?_⟩
  have f:=(f.dR (pG Pr 52 (qM 26) 13 e d l (.ready,none)) (aN p 0 [.slice g (done++[x]).length i])<|Q5 g i<|done++[x]).Vc
  exact(Hs.Cn (A:=fun z:EX×Nat=>sp [pG Pr 52 (qM 26) 13 e d l (.ready,none),aN p 0 [.slice z.1 (done++[x]).length z.2],Q5 z.1 z.2<|done++[x]]) (g,i) f).to
 .intro v h f;obtain⟨⟨a,c⟩,f⟩:=(f.bF<|apX p e d l l0).Fl;have f:=f.E4;exact qZ f fun h f=>rC<|am p f rfl<|qP f fun h f=>oA<|y a c _ f.to
 .intro done x v h s f;obtain⟨t,_⟩:=(f.bF<|Dm False).yv;exact t.elim
def aBv {A:HP} (E:n<=k) (B:k<=1000) (y:∀i,i<n->∀(h:AH) (L:IB) (Q:Value->AH->Prop),Hs G h (A::L)->(∀h',Hs G h' (A::L)->Q (.tuple ⟨[.agg ⟨(F i).core⟩,I 0]⟩) h')->E5 Pr K j [I i] h Q)
  (t:n<k->∀(h:AH) (L:IB) (Q:Value->AH->Prop),Hs G h (A::L)->(∀c h',c.length=7->c.all gM=true->Hs G h' (A::L)->Q (.tuple ⟨[.agg ⟨c⟩,I 10]⟩) h')->E5 Pr K j [I n] h Q)
  (g:Hs G h (A::L)) (v:∀a c h',Hs G h' (dY 7 39 a c (n,(List.range n).flatMap fun i=>(F i).core)::A::L)->Q (.slice a n c) h'):IU 24 [I k,j] h Q:=by
 have loop:∀(f i:Nat) (a:EX) (c:Nat) (h:AH),i+f=n->Hs G h (dY 7 39 a c (i,(List.range i).flatMap fun i=>(F i).core)::A::L)->Dd 24 1 [] Q [j,.slice a i c,I k,I i] h:=by
  intro f;induction f with
  |zero=>
   intro i a c h z g;obtain rfl:i=n:=FA
   by_cases u:i<k;refine bW<|bE<|aae<|bW<|t u h _ _ g.pS fun cc h q s g=>aQ rfl<|aQ rfl<|cK g fun p h g=>bK (b:=p) (o:=0) g rfl rfl q s fun h g=>bU<|aae<|v _ _ _ g.to;exact bW (bE<|aab<|v _ _ _ g)
  |succ f D=>
   intro i a c h z g;refine bW<|bE<|aae<|bW<|y i FA h _ _ g.pS fun h g=>aQ rfl<|aQ rfl<|cK g fun p h g=>ax (b:=p) (o:=0) g fun h g=>bU<|aab<|bW ?_;refine an p g (l:=(F i).core) rfl rfl<|aZ (c:=(F i).core) rfl<|dV g rfl rfl rfl fun a3 h g=>?_;refine tG (a:=a) (c:=c) (n:=i) (a2:=some a3) (c2:=1) (m:=1) g FA fun w x h g=>?_;dsimp only;refine aad<|D (i+1) w x h FA ?_;have e:(List.range i).flatMap (fun i=>(F i).core)++(F i).core=(List.range<|i+1).flatMap fun i=>(F i).core:=by rw[dx,l9];simp
   rw[e] at g;exact g.to
 exact cW<|loop n 0 none 0 h FA<|jO g
def sa {c2:Nat} (v:n<=1000) (b:Hs G h (dY 7 39 a1 g (n,(List.range n).flatMap fun i=>(F i).core)::dY 7 39 a2 c2 (n,(List.range n).flatMap fun i=>(F i).core)::L))
  (t:∀h',Hs G h' (dY 7 39 a1 g (n,(List.range n).flatMap fun i=>(F i).core)::dY 7 39 a2 c2 (n,(List.range n).flatMap fun i=>(F i).core)::L)->Q (.bool true) h'):IU 23 [.slice a1 n g,.slice a2 n c2] h Q:=by
 have p:∀x∈(List.range n).map (fun i=>(F i).core),x.length=7:=fun x o=>by
  obtain⟨i,_,rfl⟩:=eV.1 o;rfl
 have j:(List.range n).flatMap (fun i=>(F i).core)=((List.range n).map fun i=>(F i).core).flatten:=rfl
 have loop:∀(f i:Nat) (h:AH),i+f=n->Hs G h (dY 7 39 a1 g (n,(List.range n).flatMap fun i=>(F i).core)::dY 7 39 a2 c2 (n,(List.range n).flatMap fun i=>(F i).core)::L)->Dd 23 2 [] Q [.slice a1 n g,.slice a2 n c2,I n,I i] h:=by
  intro f;induction f with
  |zero=>
   intro i h q b;exact bW (bE<|aab<|t _ b)
  |succ f u=>
   intro i h q b;have o:((List.range n).map fun i=>(F i).core)[i]?=some (F i).core:=by rw[km,oV FA];rfl
   refine bW<|bE<|aae<|bW<|bI b fun w h b=>?_;have b:=b.tail;refine aC4 (cf (l:=(List.range n).map fun i=>(F i).core) p FF j b) FC o ?_;refine aC4 (cf (l:=(List.range n).map fun i=>(F i).core) p FF j<|b.bF<|dY 7 39 a2 c2 (n,(List.range n).flatMap fun i=>(F i).core)) FC o ?_;refine aKm (s:=F i)<|cS ?_;exact bW<|aad<|u (i+1) h FA b
 exact cW<|dB<|dB<|bU<|aab<|bW<|dB<|loop n 0 h FA b
end
variable {G:Bg} {h:AH} {M:bR}
variable {ps:List (ID)}
theorem aJl {g:Value} {ws:EV} (hn:ps.length<=1000000/\ws.length<1000000/\os.length<1000000) (hG:Gb G) (hg:Ob G 1 xT) (u:A.Nx G pv g ov vv ps ws os vs) (X:tE Cf ps ws os vs=0)
  (J:∃V,RX Cf (B8 Cf ps ws os vs) M V) (Y:M.eY.length<10000) (f:Hs G h L) [mm:eB (cD G Cf m) L M L'] (s:∀h',Hs G h' (cD G Cf m M::L')->Q (.bool true) h'):IU 9 [.agg ⟨Co Cf pv g ov vv⟩,IV m] h Q:=by
 obtain⟨V,hR⟩:=J
 obtain⟨hC,_⟩:=E2 X
 have hc:=hC.1
 have z:uG (.agg ⟨Co Cf pv g ov vv⟩) (.agg ⟨Co Cf pv g ov vv⟩)=true:=by
  obtain⟨⟨vi,_,⟨a1,B,rfl,_⟩,_⟩,⟨T,c2,rfl,_⟩,⟨a3,c3,rfl,_⟩,⟨a4,U,rfl,_⟩⟩:=u;exact aQx
 refine cW<|eT (cs:=Co Cf pv g ov vv) (mm.of f) fun R h f=>dM<|cS<|bW<|bI f fun rr h f=>an R f (l:=Co Cf pv g ov vv) rfl rfl ?_
 obtain⟨y,hl,f⟩:=dN<|f.bF<|cD G Cf m M
 refine cW<|dM<|cS<|aC<|aA<|am m f rfl ?_
 refine cW<|eT f fun q Z v=>?_
 have f:=(v.dC (aN q 0 [.slice y.al M.eY.length y.cl])<|Q5 y.al y.cl M.eY).F4
 have f:Hs G Z (veR q y.al y.cl M.eY::_):=f
 refine aF6 FA f fun a c h4 w=>?_
 have ra:A.RA G (Q5 a c M.eY) Cf pv g ov vv (.slice a M.eY.length c) ps ws os vs M.eY:=⟨hn,hG.Ng,hg,u,aP2,FA⟩
 refine A.sq ra w (fun e=>absurd X e) fun _ a1 B T c2 a3 c3 h5 p=>?_
 have t:=hR.eY
 rw[t] at p ⊢
 dsimp only at p ⊢
 refine aQ rfl<|aQ rfl<|nJ (r:=rr) (i:=8) (n:=11) (D:=[]) p rfl rfl fun E h f=>ax (b:=E) f fun h f=>?_
 refine cR (an R v (l:=Co Cf pv g ov vv) rfl rfl z)<|cR (an R w (l:=Co Cf pv g ov vv) rfl rfl z)<|cR (aQ rfl jF)<|bI f fun β H j=>cC<|cI rfl<|aA<|am E j rfl ?_
 have f:=(j.bF<|veR q y.al y.cl M.eY).Fk
 have f:=bY (m:=m) (x:=y) M hl f
 have f:Hs G H (cD G Cf m M::dY 7 39 a1 B (Cf.aB.toNat,(List.range Cf.aB.toNat).flatMap fun i=>(M.aD i).core)::aN E 0 [I M.eY.length,.slice a1 Cf.aB.toNat B,.slice T Cf.aJ.toNat c2,.slice a3 (Cf.aF*2) c3]::L'):=f.to
 refine aBv (A:=cD G Cf m M) (F:=M.aD) (n:=Cf.aB.toNat) (k:=4) FA FA (fun i hi h L Q f s=>qB rfl<|Rs (Cf:=Cf) (M:=M) hC f fun h f=>?_) (fun hi h L Q f s=>qB rfl<|Rs (Cf:=Cf) (M:=M) hC f fun h f=>?_) f fun a4 U h f=>?_
 .have e:bR.core Cf M (i:Int)=((M.aD i).core,0):=by unfold bR.core;rw[aac,aM]
  rw[e]
  exact s _ f
 .have e:bR.core Cf M ((Cf.aB.toNat:Nat):Int)=([I 0,I 0,I 0,I 0,I 0,I 0,.bool false],10):=by unfold bR.core;rw[aaa]
  rw[e]
  exact s _ _ rfl rfl f
 have O:=f
 refine sa (F:=M.aD) (n:=Cf.aB.toNat) FA (f.dC (dY 7 39 a1 B (Cf.aB.toNat,(List.range Cf.aB.toNat).flatMap fun i=>(M.aD i).core))<|dY 7 39 a4 U (Cf.aB.toNat,(List.range Cf.aB.toNat).flatMap fun i=>(M.aD i).core)) fun h f=>?_
 exact cR (aA dG)<|cR (am E O rfl Ls)<|s _ f.to
end Go.Proofs.Z
namespace Go.Ab
open Go.RowKit
variable {P:Program} {K:FuncId->EU->IE} {G:Bg} {h h':AH} {M:IB}
noncomputable def ua (G:Bg) (h:AH):Bg:=⟨h.next,h.get,G.hb⟩
def Hs.ua (f:Hs G h L):Hs (ua G h) h [] where
 base:=⟨f.base.1,cO f.base.2 f.wf⟩
 old:=fun _ _=>rfl
 wf:=b0 _
 fr:=f.fr
 V2:=⟨eJ.Ro,rfl,⟨fun b o v h=>FY,fun b h=>FY,fun b e x n h=>FY,fun b o h=>FY⟩⟩
theorem Hs.aV7 (p:Hs G h L) (l:Hs (Go.Ab.ua G h) h' M):Hs G h' (M++L):=by
 obtain⟨s,I,i1⟩:=p.V2;obtain⟨w,J,i2⟩:=l.V2;have B:∀b,h.get b≠none->b<h.next:=fun b j=>by
  rcases ql b h.next with q|q
  exact q;exact absurd (p.fr b q) j
 have T:∀b t,s.A2 b=some t->b<h.next:=fun b t j=>by
  cases t with
  |kW=>exact(i1.kW b j).2.1
  |mt e x n=>obtain⟨_,c,g,_⟩:=i1.mt b e x n j;grind
  |Ni o=>obtain⟨_,g,_⟩:=i1.Ni b o j;grind
 have E:∀b t,w.A2 b=some t->h.next<=b:=fun b t j=>by
  cases t with
  |kW=>exact(i2.kW b j).1
  |mt e x n=>exact(i2.mt b e x n j).1
  |Ni o=>exact(i2.Ni b o j).1
 have z:∀b o v,s.gL b o=some v->b<h.next:=fun b o v j=>by
  obtain⟨_,_,_,_,g,_⟩:=i1.gL b o v j;grind
 have A:w.A8 s:=by
  refine⟨fun b o=>?_,fun b=>?_⟩;cases q:s.gL b o with
  |none=>grind
  |some v=>
   cases h4:w.gL b o with
   |none=>grind
   |some u=>have O:=z b o v q;have R:h.next<=b:=(i2.gL b o u h4).1;omega
  cases q:s.A2 b with
  |none=>grind
  |some v=>
   cases h4:w.A2 b with
   |none=>grind
   |some u=>grind
 have D:h.next<=h'.next:=l.wf
 have qE:∀b,b<h.next->h'.get b=h.get b:=fun b j=>l.old b j
 refine⟨⟨l.base.1,p.base.2⟩,fun i y=>(qE i<|l7 y p.wf).trans<|p.old i y,cO p.wf D,l.fr,_,mF.2 FB,(eJ.jC A).2 ⟨?_,?_⟩⟩;have H:∀b,h.next<=b->G.base<=b:=fun b j=>cO p.wf j
 exact⟨fun b o v f=>⟨H b (i2.gL b o v f).1,(i2.gL b o v f).2⟩,fun b f=>⟨FB,(i2.kW b f).2⟩,fun b e x n f=>⟨FB,(i2.mt b e x n f).2⟩,fun b o f=>⟨FB,(i2.Ni b o f).2⟩⟩;refine⟨fun b o v f=>?_,fun b f=>?_,fun b e x n f=>?_,fun b o f=>?_⟩;obtain⟨g1,g2⟩:=i1.gL b o v f;grind;obtain⟨g1,g2,g3⟩:=i1.kW b f;grind;obtain⟨g1,g2⟩:=i1.mt b e x n f;grind;obtain⟨g1,g2,g3⟩:=i1.Ni b o f;grind
structure Bg.Le (G G':Bg):Prop where
 base:G.base<=G'.base
 old:∀i,i<G.base->G'.old i=G.old i
def Hs.aQ5 (b:Hs G h L):G.Le (Go.Ab.ua G h):=⟨b.wf,b.old⟩
theorem Ob.mono {g:Bg} (i:G.Le g) {c:EU} (f:Ob G b c):Ob g b c:=
 ⟨l7 f.lt i.base,let⟨e,j,x,l⟩:=f.get;⟨e,j,x,(i.old b f.lt).trans l⟩⟩
theorem aNy {W:Nat} (B:0<W) (s:Hs G h (dY W e a c (n,cs)::L)):zE (Go.Ab.ua G h) W (.slice a n c) n (fun i=>(cs.drop<|i*W).take W):=by
 refine⟨a,c,rfl,fun i w=>?_⟩;obtain⟨r,H,f,y,E,o,p⟩:=s.fst;obtain⟨x,v,f⟩:=f;simp only at x v f;rcases f with⟨z,_⟩|⟨z,_⟩|⟨q,b,A,t,ex,rfl,hle,rfl⟩;omega;omega;obtain⟨D,l⟩:=O4 o p;have j:b<h.next:=by
  rcases ql b h.next with g|g
  exact g;rw[s.fr b g] at l;cases l
 have u:(i+1)*W<=n*W:=og _ w;rw[DZ,Nat.one_mul] at u;refine⟨b,_,_,rfl,⟨j,e,_,ex,l⟩,?_,FG⟩;rw[ef,<-sl,List.drop_left,AL FA,x0 FB]
end Go.Ab
namespace Go.Proofs.Z
open Go.Hm Go.At Go.Mc Go.Ct Go.Nt Go.Is
variable {p:ID}
section
variable {G:Bg} {h:AH} {L1 L2 L3 L4:IB}
theorem Gb.mono {f:Bg} (b:G.Le f) (h:Gb G):Gb f:=⟨h.Ng.mono b,h.kin.mono b,h.jA.mono b⟩
abbrev cA:bQ:=⟨1,1,1,1,2,1,1⟩
abbrev zA:EU:=[I 0,I 0,I 0,I 0]
abbrev iA:iD:=⟨5,1,0,0⟩
abbrev mA (p:ID):bR:=MC.kD ⟨cA,[p],[1],[1],[0,0,0,0]⟩
def Lm {W:Nat} (t:0<W) (v:Hs G h L) [m:eB (dY W e a c) L (n,cs) L'] (u:∀i,i<n->(cs.drop<|i*W).take W=f i):zE (ua G h) W (.slice a n c) n f:=by
 obtain⟨a,c,e,k⟩:=aNy t<|m.of v;exact⟨a,c,e,fun i g=>by obtain⟨b,o,l,j,p,q,s⟩:=k i g;exact⟨b,o,l,j,p,q.trans<|u i g,s⟩⟩
def x8 {a1 a2 a3 a4:Addr} {v:Value} (f:Hs G h L) [o:eB (dY 1 47 (some a1) 1) L (1,[v]) L1] [s:eB (dY 1 3 (some a2) 1) L (1,[I 1]) L2] [t:eB (dY 1 3 (some a3) 1) L (1,[I 1]) L3] [w:eB (dY 1 3 (some a4) 4) L (4,zA) L4]
  (l:A.Rv (ua G h) v p):A.Nx (ua G h) (.slice (some a1) 1 1) (.slice (some a2) 1 1) (.slice (some a3) 1 1) (.slice (some a4) 4 4) [p] [1] [1] [0,0,0,0]:=by
 have E8:∀{i:Nat},i<1->i=0:=fun h=>FA
 refine⟨⟨[v],rfl,Lm (e:=47) (cs:=[v]) FC f fun i b=>?_,fun i u q g j=>?_⟩,Lm (e:=3) (cs:=[I 1]) FC f fun i b=>?_,Lm (e:=3) (cs:=[I 1]) FC f fun i b=>?_,Lm (e:=3) (cs:=zA) FC f fun i b=>?_⟩
 .cases E8 b;rfl
 .match i with
  |0=>cases g;cases j;exact l
  |i+1=>cases g
 .cases E8 b;rfl
 .cases E8 b;rfl
 .have:i=0\/i=1\/i=2\/i=3:=FA
  rcases this with rfl|rfl|rfl|rfl<;>rfl
def zq {g:Value} (hG:Gb G) (j:Ob G 1 xT) (i:tE cA [p] [1] [1] [0,0,0,0]=0) (o:A.Nx (ua G h) pv g ov vv [p] [1] [1] [0,0,0,0]) (b:Hs G h L)
  (l:∀m h',Hs G h' (cD G cA m (mA p)::L)->Q (.tuple ⟨[IV m,I 0]⟩) h'):IU 14 [.agg ⟨Co cA pv g ov vv⟩] h Q:=
 yb (G:=ua G h) (L:=[]) FF (hG.mono b.aQ5) (j.mono b.aQ5) o b.ua (fun e=>absurd i e) fun _ m h' f=>l m h'<|show Hs G h' ([cD (ua G h) cA m<|mA p]++L) from b.aV7 f
def aFj:tE cA [[]] [1] [1] [0,0,0,0]=0:=FD
def aGs:tE cA [[iA]] [1] [1] [0,0,0,0]=0:=FD
def aTc:((mA []).yJ cA 9 0).1=0:=FD
def aR3:((mA []).yJ cA 9 0).2.over cA=true:=FD
def aTv:((mA [iA]).yJ cA 90 0).1=7:=FD
def aQv:((mA [iA]).yJ cA 90 0).2.over cA=true:=FD
def aSl:((mA [iA]).yJ cA 90 0).2.eY.length=1:=FD
def aYf:∀p∈[[iA]],Ko p:=fun p f=>by
 cases aV.1 f;intro a g b;have:a=0:=by simp at b;omega
 subst this;exact⟨(fun h=>FH),fun h=>FH⟩
def G5 (hG:Gb G) (s:Ob G 1 xT) (f:Hs G h L) (u:∀h',Q (.bool true) h'):IU 5 [] h Q:=by
 refine cW (aZ (c:=cA.enc) rfl (aZ (c:=[.slice none 0 0]) rfl (dV (W:=1) (l:=[.slice none 0 0]) (n:=1) (c:=1) f rfl rfl rfl fun a1 h f=>aZ (c:=[I 1]) rfl (dV (W:=1) (l:=[I 1]) (n:=1) (c:=1) f rfl rfl rfl fun g h f=>
  aZ (c:=[I 1]) rfl (dV (W:=1) (l:=[I 1]) (n:=1) (c:=1) f rfl rfl rfl fun a3 h f=>aHk (n:=4) FC FC (dV (W:=1) (l:=zA) (n:=4) (c:=4) f rfl rfl rfl fun a4 h f=>
  aZ (c:=Co cA (.slice (some a1) 1 1) (.slice (some g) 1 1) (.slice (some a3) 1 1)<|.slice (some a4) 4 4) rfl (cK f fun p h f=>ax (b:=p) f fun h f=>kR (b:=p) (o:=0) f FC (l:=Co cA (.slice (some a1) 1 1) (.slice (some g) 1 1) (.slice (some a3) 1 1)<|.slice (some a4) 4 4) rfl rfl ?_)))))))
 refine zq (p:=[]) hG s aFj (x8 f ⟨none,0,rfl,fun i t=>by cases t⟩) f fun m h f=>?_;refine aQ rfl (aQ rfl (aZ (c:=iA.enc) rfl (aZ (c:=iA.enc) rfl (dV (W:=4) (l:=iA.enc) (n:=1) (c:=1) f rfl rfl rfl fun a5 h f=>aZ (c:=[.slice (some a5) 1 1]) rfl (dV (W:=1) (l:=[.slice (some a5) 1 1]) (n:=1) (c:=1) f rfl rfl rfl fun q h f=>aA (ay (b:=p) (o:=0) f fun h f=>
  kR (b:=p) (o:=0) f FC (l:=Co cA (.slice (some q) 1 1) (.slice (some g) 1 1) (.slice (some a3) 1 1)<|.slice (some a4) 4 4) rfl rfl ?_))))))
 have op:∀(h:AH) (M M':IB),Hs G h M->[eB (dY 4 49 (some a5) 1) M (1,iA.enc) M']->A.Rv (ua G h) (.slice (some a5) 1 1) [iA]:=by
  intro h M M' f _;refine Lm (e:=49) (cs:=iA.enc) FC f fun i t=>?_;have:i=0:=FA
  subst this;rfl
 refine zq (p:=[iA]) hG s aGs (x8 f<|op _ _ _ f) f fun k h f=>?_;refine aQ rfl<|aQ rfl<|bU<|aab<|bU<|aab<|dM<|cS<|dM<|cS<|bW ?_;refine Te (Cf:=cA) (m:=m) (M:=mA []) (S:=Y3 [[]] [1]) (N:=0) (most:=9) (E2 aFj).1 hG (Y0 aFj) FA f fun h f=>?_;rw[aTc,aR3];refine aQ rfl<|aQ rfl<|Te (Cf:=cA) (m:=k) (M:=mA [iA]) (S:=Y3 [[iA]] [1]) (N:=0) (most:=90) (E2 aGs).1 hG (Y0 aGs) FA f fun h f=>?_;rw[aTv,aQv];refine aQ rfl<|aQ rfl<|cC<|cI rfl<|gF<|oT<|aae<|gF<|aL9 (Cf:=cA) (M:=((mA [iA]).yJ cA 90 0).2) f fun h f=>?_;rw[aSl];refine cC<|cI rfl<|kR (b:=p) (o:=0) f FC (l:=Co cA (.slice (some q) 1 1) (.slice (some g) 1 1) (.slice (some a3) 1 1)<|.slice (some a4) 4 4) rfl rfl ?_;refine Pw FC FC (x8 f<|op _ _ _ f) f.ua (fun _ h j=>?_) fun e=>absurd aYf e;have f:=f.aV7 j;refine gF<|kR (b:=p) (o:=0) f FC (l:=Co cA (.slice (some q) 1 1) (.slice (some g) 1 1) (.slice (some a3) 1 1)<|.slice (some a4) 4 4) rfl rfl<|Sc FC FC (x8 f<|op _ _ _ f) f.ua fun h j=>cC ?_;exact u _
end
variable {P:Nat->ID}
variable {G:Bg} {h:AH} {Cf:bQ} {M:bR} {S:Nat->aT} {A0:AM}
def nz {l:IF} (hC:Cf.Ok) (hG:Gb G) (t:l.length<=200) (j:ml G lv l) (p:∀N M' h',N<=400->FE Cf A0 S P N M'->Hs G h' (cD G Cf m M'::L)->Q (IV m) h'):
  ∀(f i:Nat) (M:bR) (h:AH),i+f=l.length->FE Cf A0 S P (2*i) M->Hs G h (cD G Cf m M::L)->Dd 6 3 [] Q [lv,IV m,I i] h:=by
 intro f
 induction f with
 |zero=>
  intro i M h o hA b
  exact bW (aR8 j<|bE<|aab<|p (2*i) M h FA hA b)
 |succ f s=>
  intro i M h o hA b
  obtain⟨d,q,_⟩:=rK (l:=l) (i:=i) FA
  have g:=hA.mK (d:=d) hC
  have b:=aNr j b
  refine bW<|aR8 j<|bE<|aae<|cu<|gF<|bW<|aC4 b FC (aJw q)<|aZ (c:=d.enc) rfl<|dV (W:=4) (n:=1) (c:=1) b.tail rfl rfl rfl fun a h b=>?_
  exact ub (d:=d) (M:=M) hC hG hA.zs.all.inv FA b fun h b=>aad<|s (i+1) _ h FA g b
abbrev oy (ps:List (ID)) (i:Nat):ID:=ps.getD i []
variable {ps:List (ID)}
def aR1 {ws:EV} (g:tE Cf ps ws os vs=0) (j:∀p∈ps,Ko p):FE Cf (B8 Cf ps ws os vs) (Y3 ps ws) (oy ps) 0 (MC.kD ⟨Cf,ps,ws,os,vs⟩):=by
 obtain⟨hC,s,u,q,t,_,l,_⟩:=E2 g;have o:RX Cf (B8 Cf ps ws os vs) (MC.kD ⟨Cf,ps,ws,os,vs⟩) (At.uA uF vs 0):=RX.kD hC (by have:=hC.2.1;omega);have b:∀i:Nat,(i:Int)<Cf.aB->i<ps.length/\i<ws.length:=fun i f=>FA
 refine FE.kD (c:=⟨Cf,ps,ws,os,vs⟩) g rfl (Y0 g) (fun i f=>⟨rfl,rfl,?_⟩) rfl (fun i f=>?_) ⟨_,o⟩ ⟨_,_,o⟩;show 0<=ws.getD i 0/\ws.getD i 0<=3;rw[aP,bj (b i f).2];exact l _<|v7 _;show Ko (ps.getD i []);rw[aP,bj (b i f).1];exact j _<|v7 _
def aCi {g:Value} {ws:EV} {l:IF} (B:ps.length<=9223372036854775807) (z:l.length<=200) (hG:Gb G) (x:Ob G 1 xT) (j:A.Nx G pv g ov vv ps ws os vs) (v:ml G lv l) (q:∀p∈ps,Ko p) (f:Hs G h L)
  (t:∀h',Hs G h' L->Q (.pointer none) h') (y:∀N M m h',tE Cf ps ws os vs=0->ps.length<=6/\ws.length<=6/\os.length<=20/\vs.length<=80->N<=400->FE Cf (B8 Cf ps ws os vs) (Y3 ps ws) (oy ps) N M->Hs G h' (cD G Cf m M::L)->Q (IV m) h'):IU 6 [.agg ⟨Co Cf pv g ov vv⟩,lv] h Q:=by
 refine cW<|eT (cs:=Co Cf pv g ov vv) f fun s h f=>an s f (l:=Co Cf pv g ov vv) rfl rfl ?_
 refine aT0 B j f (fun w h f=>cX<|fM<|gF<|bW ?_) fun h f=>cX<|fM<|cS<|t _ f.tail
 refine an s f (l:=Co Cf pv g ov vv) rfl rfl ?_
 refine yb (Cf:=Cf) FA hG x j f (fun i h f=>aQ rfl<|aQ rfl<|bU<|cI i<|t _ f.tail) fun i m h f=>?_
 refine aQ rfl<|aQ rfl<|bU<|aab<|bW ?_
 obtain⟨hC,_⟩:=E2 i
 exact nz (A0:=B8 Cf ps ws os vs) (P:=oy ps) (S:=Y3 ps ws) (L:=aN s 0 (Co Cf pv g ov vv)::L) hC hG z v (fun N M h u hA f=>y N M m h i w u hA f.to) l.length 0 _ h FA (aR1 i q) f
def aDf {p2:Nat} (hC:Cf.Ok) (hG:Gb G) (w:Ob G 1 xT) (j:cs[0]?=some (I Cf.aB)) (hF:FE Cf A0 S P N M) (u:N<=2^26) (hE:Mc.aX6 Cf M) (y:∀h',Q (.bool true) h'):
  ∀(f i:Nat) (h:AH),i+f=Cf.aB.toNat->Hs G h (cD G Cf m M::aN p2 0 cs::L)->Dd 3 4 [] Q [IV p2,IV m,I i] h:=by
 have hA:=hF.zs.all
 have A:=hC.1
 intro f
 induction f with
 |zero=>
  intro i h x g
  refine bW<|aA<|aA<|am p2 g j<|bE<|aab ?_
  refine Wb (Cf:=Cf) (M:=M) hC hG hA.inv.bH hA.inv.cB.len (hA.inv.aK.h FA) g fun a c h g=>?_
  rw[hE.ready] at g ⊢
  refine dB<|cC<|cI rfl ?_
  refine X8 (S:=S) (M:=M) hC hG hA u g fun h g=>?_
  rw[hE.round]
  exact cC (cI rfl<|G5 hG w g y)
 |succ f z=>
  intro i h x g
  obtain⟨p,l⟩:=hE.B1 i FA
  refine bW<|aA<|aA<|am p2 g j<|bE<|aae<|bW ?_
  refine Rs (Cf:=Cf) (M:=M) hC g fun h g=>?_
  have e:bR.core Cf M (i:Int)=((M.aD i).core,0):=by unfold bR.core;rw[aac,aM]
  rw[e]
  refine aQ rfl<|aQ rfl<|cK g fun q h g=>ax (b:=q) g fun h g=>bU<|aab<|aA<|am q g (v:= .bool (M.aD i).over) rfl ?_
  rw[p]
  refine cX<|cS<|uc (Cf:=Cf) (M:=M) hA.inv.bH g fun h g=>?_
  have t:M.aH (i:Int)=false:=l
  rw[t]
  have s:((i:Int)+1)=((i+1:Nat):Int):=FA
  refine cS<|bW<|aad ?_
  rw[s]
  exact z (i+1) h FA g.to
def m8 {u:Value} {ws:EV} {l:IF} (Y:ps.length<=9223372036854775807) (O:∀p∈ps,p.length<=9223372036854775807) (hG:Gb G) (x:Ob G 1 xT) (t:A.Nx G pv u ov vv ps ws os vs) (U:ml G lv l) (j:Hs G h L)
  (y:∀h',Q (.bool true) h'):IU 3 [.agg ⟨Co Cf pv u ov vv⟩,lv] h Q:=by
 refine cW<|eT (cs:=Co Cf pv u ov vv) j fun w h j=>aR8 U<|oT<|bG (fun _=>G5 hG x j y) fun h4=>?_
 refine aA<|aA<|am w j (v:=I Cf.eG) rfl<|bE<|bG (fun _=>G5 hG x j y) fun δ=>an w j (l:=Co Cf pv u ov vv) rfl rfl ?_
 refine Pw Y O t j (fun T h j=>cX<|cS<|bW ?_) fun _ h j=>cX<|gF<|G5 hG x j y
 refine an w j (l:=Co Cf pv u ov vv) rfl rfl ?_
 refine aCi Y FA hG x t U T j (fun h j=>bx<|gF<|G5 hG x j y) fun N M m h X hf hN hF j=>dM<|cS<|bW ?_
 obtain⟨hC,J,_,_,_,R,_,_⟩:=E2 X
 have hc:=hC.1
 have s:∀p∈ps,p.length<=32:=fun p D=>A.H2<|A.C6 R _ D
 have E:fH (fun i=>(oy ps i).length) Cf.aB.toNat=F3 ps:=by rw[<-J];exact aGr
 have γ:F3 ps<=128:=by
  rw[<-E];refine cO (gY (g:=fun _=>32) fun i hi=>?_) (by rw[Ei];omega);show(ps.getD i []).length<=32;rw[aP,bj FA];exact s _<|v7 _
 have H:=hF.aUm hC
 rw[E] at H
 refine an w j (l:=Co Cf pv u ov vv) rfl rfl ?_
 refine Sc FA (fun p D=>by have:=s p D;omega) t j fun h j=>?_
 have eb:(1000*((2+F3 ps:Nat):Int))=((1000*(2+F3 ps):Nat):Int):=FA
 rw[eb]
 refine Te (S:=Y3 ps ws) (most:=1000*(2+F3 ps)) hC hG hF.zs.all FA j fun h j=>?_
 obtain⟨k,N',M',Z,ε,q,β,B⟩:=X2 hC FA (f:=1000*(2+F3 ps)) (k:=0) hF FA
 rw[Z] at j ⊢
 simp only[B]
 have hE:=aMp hC q.zs B
 have z:=q.st.aQg q.zs.all.inv
 rw[E] at z
 refine aQ rfl<|aQ rfl<|cX<|cS<|bE<|aab<|an w j (l:=Co Cf pv u ov vv) rfl rfl ?_
 refine Sc FA (fun p D=>by have:=s p D;omega) t j fun h j=>?_
 refine oT<|aab<|an w j (l:=Co Cf pv u ov vv) rfl rfl ?_
 refine aJl ⟨FA,FA,FA⟩ hG x t X q.rx FA j fun h j=>?_
 refine cX<|cS<|bW ?_
 exact aDf (m:=m) (p2:=w) (A0:=B8 Cf ps ws os vs) (S:=Y3 ps ws) (P:=oy ps) (cs:=Co Cf pv u ov vv) (L:=L) hC hG x rfl q FA hE y Cf.aB.toNat 0 h FA j.to
end Go.Proofs.Z
end
