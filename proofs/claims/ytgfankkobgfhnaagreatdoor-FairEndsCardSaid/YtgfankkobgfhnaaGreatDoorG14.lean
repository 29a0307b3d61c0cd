/- A part of the proof. -/
import Derived.Test.YtgfankkobgfhnaaGreatDoorG13
import Derived.Test.YtgfankkobgfhnaaGreatDoorG9
import Derived.Test.YtgfankkobgfhnaaGreatDoorG10
set_option linter.all false
set_option maxRecDepth 100000
open Go Go.Ab
variable {p:Nat->Bool} {N c i k l m n:Nat} {L L':IB} {Q:Value->AH->Prop} {a st v x:Int} {t2 t72:Value} {al:EX} {S:EW} {j:Int->Int×Bool}
section
attribute [local irreducible] cE Br xE zJ Ba K1 sO D9 sF na mC tH yM yV yE pR Be dr bf dm Xy bu py qY vS oL nR Fs Qe rE Xn lz Hj Cl E5 pw A9 zV qJ kI fJ dX
namespace Go.Proofs.Z
open Go.Hm Go.At Go.Mc Go.Ct Go.Nt
instance:Fx Do.enc 4:=⟨fun _=>rfl,fun _=>rfl⟩
abbrev dos (a:EX) (c:Nat) (l:IF):HP:=ls Do.enc 4 56 a c l
def dsP (p:Nat) (l:IF) (x:EX×Nat):IB:=[aN p 0 [.slice x.1 l.length x.2],dos x.1 x.2 l]
def Vd (p:Nat) (l:IF):HP:=A5 fun x:EX×Nat=>sp<|dsP p l x
def rZ (M:bR) (n:Nat):IF:=((List.range n).filter fun i:Nat=> !(M.aD i).over&& !M.aH i).map fun i:Nat=>(⟨0,i,0,0⟩:Do)
def yQ (M:bR) (c n:Nat):IF:=((List.range n).filter fun w=>decide<|M.cB c w≠[]).map fun w:Nat=>(⟨1,c,w,0⟩:Do)
def Oe (M:bR) (n:Nat):IF:=(List.range n).flatMap fun c=>yQ M c 4
def As (l:EW):IF:=l.map fun l:Nat=>(⟨2,l,0,0⟩:Do)
def Fv (C:bQ) (M:bR) (n:Nat):IF:=((List.range n).filter fun g:Nat=>M.gX C g).map fun g:Nat=>(⟨3,g,0,0⟩:Do)
variable {α:Type}
def Ke {f:Nat->α}:((List.range<|n+1).filter p).map f=((List.range n).filter p).map f++if p n then [f n] else []:=by
 rw[dx,AJ,kt,DB,EN];split<;>rfl
def La {f:Nat->α}:(((List.range n).filter p).map f).length<=n:=by
 have:=qv p<|List.range n;simp at this ⊢;exact this
variable {M:bR}
def aNn {C:bQ}:M.ready C=rZ M C.aB.toNat++Oe M C.aB.toNat++As (H.mQ M.aK C.aF)++Fv C M C.aJ.toNat:=by
 unfold bR.ready rZ Oe yQ As Fv H.mQ H.Fg;rfl
def aIf:Oe M (n+1)=Oe M n++yQ M n 4:=by
 unfold Oe;rw[dx,l9];simp
def Z2 {M:bR}:∀{n:Nat},(Oe M n).length<=4*n
 |0=>b0 _
 |n+1=>by
  rw[aIf,cV];have:=Z2 (M:=M) (n:=n);have:(yQ M n 4).length<=4:=La;omega
variable {G:Bg} {h:AH} {Cf:bQ} {p3:Nat}
def Gk {l:IF} (b:Hs G h (Vd p3 l::L)):∃a c,Hs G h (aN p3 0 [.slice a l.length c]::dos a c l::L):=by
 obtain⟨⟨a,c⟩,b⟩:=b.Fl;exact⟨a,c,b.Fk⟩
def Gs {l:IF} {a:EX} {b L2:IB} (f:Hs G h L) [g:fU (aN p3 0 [.slice a n c]) L b] [i:fU (dos a c l) b L2] (e:n=l.length):Hs G h (Vd p3 l::L2):=by
 subst e;exact Hs.Cn (A:=fun x:EX×Nat=>sp<|dsP p3 l x) (a,c)<|Hs.nY (A:=dsP p3 l (a,c))<|f.cH<|g.cH.trans<|i.cH.cons _
def aLs {x:MN} (A:x.lc.length<=4) (z:iY Cf M.bH) (w:∀q,Hs G q (Vd p3 (rZ M x.lc.length)::vB G Cf m x M::L)->Dd 12 4 [] Q [IV m,t2,IV p3,t72] q):
  ∀(f i:Nat) (h:AH),i+f=x.lc.length->Hs G h (Vd p3 (rZ M i)::vB G Cf m x M::L)->Dd 12 2 [] Q [IV m,t2,IV p3,.slice x.ac x.lc.length x.cc,I x.lc.length,I i,t72] h:=by
 intro f
 induction f with
 |zero=>
  intro i h v g
  obtain rfl:i=x.lc.length:=FA
  exact bW (bE<|aab<|w h g)
 |succ f p=>
  intro i h v g
  have k:i<x.lc.length:=FA
  have hle:(rZ M i).length<=i:=La
  obtain⟨y,g⟩:=nV<|g.bF<|vB G Cf m x M
  refine bW<|bE<|aae<|bW<|Ka g k<|Z9 (l:=x.lc) (S:=M.aD) k g ?_
  have g:=tI (m:=m) (x:=x) M y g
  refine cX<|fM<|eA (fun a1=>aad<|p (i+1) h FA ?_) fun a1=>Nn (x:=x) z g fun h g=>cX<|fM<|eA (fun j=>bW<|aad<|p (i+1) h FA ?_) fun j=>bW ?_
  .have e:rZ M (i+1)=rZ M i:=by unfold rZ;rw[Ke,bA0<|by rw[a1];simp,g7]
   rw[e];exact g.to
  .have e:rZ M (i+1)=rZ M i:=by unfold rZ;rw[Ke,bA0<|by rw[j];simp,g7]
   rw[e];exact g.to
  .have e:rZ M (i+1)=rZ M i++[⟨0,i,0,0⟩]:=by unfold rZ;rw[Ke,bA1<|by rw[a1,j];rfl]
   obtain⟨a,c,g⟩:=Gk<|g.bF<|Vd p3<|rZ M i
   refine am p3 g rfl<|aZ (c:=(⟨0,i,0,0⟩:Do).enc) rfl<|aZ (c:=(⟨0,i,0,0⟩:Do).enc) rfl<|dV (W:=4) (n:=1) (c:=1) g rfl rfl rfl fun j h g=>?_
   have g:=tB (enc:=Do.enc) (W:=4) (e:=56) (x:=⟨0,i,0,0⟩) g
   refine qT (enc:=Do.enc) (W:=4) (e:=56) (l:=rZ M i) (l2:=[⟨0,i,0,0⟩]) (a:=a) (c:=c) (a2:=some j) (c2:=1) g FG fun t u h g=>ax (b:=p3) g fun h g=>aad<|p (i+1) h FA ?_
   have g:=Gs (p3:=p3) (a:=t) (c:=u) (l:=rZ M i++[⟨0,i,0,0⟩]) g rfl
   rw[e];exact g.to
abbrev dlX (p3 p6 a:Nat) (i w:Nat) (e:Nat->Value) (d l:Nat) (dl:IF) (st:LoopState×Option Code) (pr:Prop):HP:=sp [Dm pr,pG Pr 12 (qM 16410214) 96 e d l st,sp [aN p6 0 [I i],aN a 0 [I w]],Vd p3 dl]
def aP1 {p6:Nat} {t44:Value} {base:IF} (hC:Cf.Ok) (D:uk Cf M.cB) (P:(i:Int)<Cf.aB) (hb:base.length<=1000)
  (R:∀k B,Hs G B (Vd p3 (base++yQ M i 4)::cD G Cf m M::pq k::L)->Dd 12 14 k Q [IV m,t2,IV p3,t44,I i,t72] B):
  ∀(f w:Nat) (k:EW) (h:AH),w+f=4->Hs G h (Vd p3 (base++yQ M i w)::aN p6 0 [I i]::cD G Cf m M::pq k::L)->Dd 12 10 k Q [IV m,t2,IV p3,IV p6,t44,I i,I w,t72] h:=by
 intro f
 induction f with
 |zero=>
  intro w k h U g
  obtain rfl:w=4:=FA
  exact bW (bE<|aab<|R k h g.to)
 |succ f E=>
  intro w k h U g
  have hle:(yQ M i w).length<=w:=La
  obtain⟨x,T,g⟩:=dN<|g.bF<|cD G Cf m M
  refine bW<|bE<|aae<|bW<|cK g fun j h g=>ax (b:=j) g fun h g=>bI g fun Y h g=>aC<|aA<|am m g rfl<|am p6 g rfl<|am j g rfl ?_
  refine my (C:=Cf) (F:=M.cB) (x:=i) (y:=w) hC (D.Vl hC) P FA g fun q h g=>oE g fun d h g=>?_
  have g:=bY (m:=m) (x:=x) M T g
  intro e O
  refine rI g fun l h g=>xQ rfl ?_
  have g:Hs G h (vnR q (M.cB i w)::dlX p3 p6 j i w e d l (base++yQ M i w) (.ready,none) (([]:IA)=[])::mk d ()::pq k::cD G Cf m M::L):=by
   have g:=(g.dC (aN p6 0 [I i])<|aN j 0 [I w]).F4;have g:=g.dR (pG Pr 12 (qM 16410214) 96 e d l (.ready,none)) (sp [aN p6 0 [I i],aN j 0 [I w]])<|Vd p3<|base++yQ M i w;have g:=Hs.Rh<|Hs.bh (p:=([]:IA)=[]) rfl g;exact g.to
  refine(aUw (q:=q) (l:=M.cB i w)<|by have:=D.Vl hC i w;omega).Nf (X:=fun done=>dlX p3 p6 j i w e d l (base++yQ M i w) (.ready,none)<|done=[]) (Z:=fun _ _=>dlX p3 p6 j i w e d l (base++yQ M i w++[⟨1,i,w,0⟩]) (.done,some<|.exit 6)<|M.cB i w≠[]) g ?_ ?_ ?_
  .intro done y h N z g;obtain⟨t,g⟩:=kL g;have g:=g.E4;have g:=(g.bF<|sp [aN p6 0 [I i],aN j 0 [I w]]).Fk;have u:M.cB i w≠[]:=fun e=>by rw[e] at z;have:=z.length_le;simp at this
   obtain⟨a,c,g⟩:=Gk<|g.bF<|Vd p3<|base++yQ M i w
   refine rW (yH g) O<|kY g fun h g=>am p3 g rfl<|am p6 g rfl<|am j g rfl<|aZ (c:=(⟨1,i,w,0⟩:Do).enc) rfl<|aZ (c:=(⟨1,i,w,0⟩:Do).enc) rfl<|dV (W:=4) (n:=1) (c:=1) g rfl rfl rfl fun A h g=>?_
   have g:=tB (enc:=Do.enc) (W:=4) (e:=56) (x:=⟨1,i,w,0⟩) g
   refine qT (enc:=Do.enc) (W:=4) (e:=56) (l:=base++yQ M i w) (l2:=[⟨1,i,w,0⟩]) (a:=a) (c:=c) (a2:=some A) (c2:=1) g FG fun J K h g=>ax (b:=p3) g fun h g=>lJ g fun h g=> .inr ⟨rfl,?_⟩
   have g:=Gs (p3:=p3) (a:=J) (c:=K) (l:=base++yQ M i w++[⟨1,i,w,0⟩]) g rfl
   have g:=(g.dC (aN p6 0 [I i])<|aN j 0 [I w]).F4
   have g:=g.dR (pG Pr 12 (qM 16410214) 96 e d l (.done,some<|.exit 6)) (sp [aN p6 0 [I i],aN j 0 [I w]])<|Vd p3<|base++yQ M i w++[⟨1,i,w,0⟩]
   exact(Hs.Rh<|Hs.bh (p:=M.cB i w≠[]) u g).to
  .intro v h g;obtain⟨t,g⟩:=kL<|g.bF<|dlX p3 p6 j i w e d l (base++yQ M i w) (.ready,none)<|M.cB i w=[];have g:=g.E4;have g:=(g.bF<|sp [aN p6 0 [I i],aN j 0 [I w]]).Fk;have e2:yQ M i (w+1)=yQ M i w:=by unfold yQ;rw[Ke,bA0<|by rw[t];simp,g7]
   refine qZ g fun h g=>rC<|aad<|E (w+1) (d::k) h FA ?_
   have g:=Ug<|g.dC (mk d ())<|pq k
   rw[e2];exact g.to
  .intro done y v h z g;obtain⟨t,g⟩:=kL<|g.bF<|dlX p3 p6 j i w e d l (base++yQ M i w++[⟨1,i,w,0⟩]) (.done,some<|.exit 6)<|M.cB i w≠[];have g:=g.E4;have g:=(g.bF<|sp [aN p6 0 [I i],aN j 0 [I w]]).Fk;have e2:yQ M i (w+1)=yQ M i w++[⟨1,i,w,0⟩]:=by unfold yQ;rw[Ke,bA1<|cL t]
   refine Kv g fun h g=>N8 rfl<|aad<|E (w+1) (d::k) h FA ?_
   have g:=Ug<|g.dC (mk d ())<|pq k
   rw[e2,<-ef];exact g.to
def aMf {base:IF} (hC:Cf.Ok) (o:uk Cf M.cB) (hb:base.length<=100)
  (q:∀a k,Hs G k (Vd p3 (base++Oe M Cf.aB.toNat)::cD G Cf m M::pq a::L)->Dd 12 9 a Q [IV m,t2,IV p3,t72] k):
  ∀(f i:Nat) (a:EW) (h:AH),i+f=Cf.aB.toNat->Hs G h (Vd p3 (base++Oe M i)::cD G Cf m M::pq a::L)->Dd 12 7 a Q [IV m,t2,IV p3,I Cf.aB.toNat,I i,t72] h:=by
 have u:=hC.1
 intro f
 induction f with
 |zero=>
  intro i a h p g
  obtain rfl:i=Cf.aB.toNat:=FA
  exact bW (bE<|aab<|q a h g)
 |succ f t=>
  intro i a h p g
  have hle:=Z2 (M:=M) (n:=i)
  refine bW<|bE<|aae<|bW<|cK g fun j h g=>ax (b:=j) g fun h g=>?_
  refine aP1 (G:=G) (L:=L) (i:=i) (p6:=j) (base:=base++Oe M i) hC o FA FG (fun a h g=>bW<|aad<|t (i+1) a h FA ?_) 4 0 a h rfl ?_
  .rw[aIf,<-ef];exact g
  .have e:base++Oe M i++yQ M i 0=base++Oe M i:=by simp[yQ]
   rw[e];exact g.to
def aLf {t3':Value} {base:IF} (hC:Cf.Ok) (hG:Gb G) (y:Bb Cf M.aK (2^30)) (hb:base.length<=1000)
  (z:∀a c p,Hs G p (dos a c (base++Fv Cf M Cf.aJ.toNat)::cD G Cf m M::L)->Q (.slice a (base++Fv Cf M Cf.aJ.toNat).length c) p):
  ∀(f g:Nat) (j:EW) (h:AH),g+f=Cf.aJ.toNat->Hs G h (Vd p3 (base++Fv Cf M g)::cD G Cf m M::pq j::L)->Dd 12 12 j Q [IV m,IV p3,I Cf.aJ,I g] h:=by
 have q:1<=Cf.aJ/\Cf.aJ<=16:=hC.2.1
 intro f
 induction f with
 |zero=>
  intro g j h w i
  obtain rfl:g=Cf.aJ.toNat:=FA
  obtain⟨a,c,i⟩:=Gk i
  exact bW (bE<|aab<|am p3 i rfl<|aVs j (i.bF<|pq j) fun h i=>z a c _ i.to)
 |succ f t=>
  intro g j h w i
  have hle:(Fv Cf M g).length<=g:=La
  refine bW<|bE<|aae<|bW<|Wp (Cf:=Cf) (M:=M) hC hG FA y (i.bF<|cD G Cf m M) fun h i=>eA (fun a1=>bW ?_) fun a1=>bW<|aad<|t (g+1) j h FA ?_
  .have e:Fv Cf M (g+1)=Fv Cf M g++[⟨3,g,0,0⟩]:=by unfold Fv;rw[Ke,bA1 a1]
   obtain⟨a,c,i⟩:=Gk<|i.bF<|Vd p3<|base++Fv Cf M g
   refine am p3 i rfl<|aZ (c:=(⟨3,g,0,0⟩:Do).enc) rfl<|aZ (c:=(⟨3,g,0,0⟩:Do).enc) rfl<|dV (W:=4) (n:=1) (c:=1) i rfl rfl rfl fun k h i=>?_
   have i:=tB (enc:=Do.enc) (W:=4) (e:=56) (x:=⟨3,g,0,0⟩) i
   refine qT (enc:=Do.enc) (W:=4) (e:=56) (l:=base++Fv Cf M g) (l2:=[⟨3,g,0,0⟩]) (a:=a) (c:=c) (a2:=some k) (c2:=1) i FG fun u v h i=>ax (b:=p3) i fun h i=>aad<|t (g+1) j h FA ?_
   have i:=Gs (p3:=p3) (a:=u) (c:=v) (l:=base++Fv Cf M g++[⟨3,g,0,0⟩]) i rfl
   rw[e,<-ef];exact i.to
  .have e:Fv Cf M (g+1)=Fv Cf M g:=by unfold Fv;rw[Ke,bA0<|by rw[a1];simp,g7]
   rw[e];exact i.to
abbrev bgX (p3:Nat) (e:Nat->Value) (d l:Nat) (base:IF) (done:EV):HP:=sp [pG Pr 12 (qM 506) 96 e d l (.ready,none),Vd p3 (base++done.map fun l:Int=>(⟨2,l,0,0⟩:Do))]
def aLc {base:IF} {g:EW} (hC:Cf.Ok) (hG:Gb G) (R:Bb Cf M.aK (2^30)) (hb:base.length<=200)
  (T:∀a c t,Hs G t (dos a c (base++As (H.mQ M.aK Cf.aF)++Fv Cf M Cf.aJ.toNat)::cD G Cf m M::L)->Q (.slice a (base++As (H.mQ M.aK Cf.aF)++Fv Cf M Cf.aJ.toNat).length c) t)
  (f:Hs G h (Vd p3 base::cD G Cf m M::pq g::L)):Dd 12 9 g Q [IV m,t2,IV p3,t72] h:=by
 have U:=bQ.fC hC
 have u:1<=Cf.aJ/\Cf.aJ<=16:=hC.2.1
 have hle:=H.fe (H:=M.aK) (n:=Cf.aF)
 obtain⟨x,j,f⟩:=dN<|f.bF<|cD G Cf m M
 refine bW<|aC<|aA<|am m f rfl<|H.mc (C:=Cf) (H:=M.aK) FA f fun q z A h f=>oE f fun d h f=>?_
 have f:=bY (m:=m) (x:=x) M j f
 intro e O
 refine rI f fun l h f=>xQ rfl ?_
 have f:Hs G h (H.Tv 3 q z A (H.pI<|H.mQ M.aK Cf.aF)::bgX p3 e d l base []::mk d ()::pq g::cD G Cf m M::L):=by
  have E:base++([]:EV).map (fun l:Int=>(⟨2,l,0,0⟩:Do))=base:=g7 _;have f:=(f.dC (pG Pr 12 (qM 506) 96 e d l (.ready,none))<|Vd p3 base).F4;have F:sp [pG Pr 12 (qM 506) 96 e d l (.ready,none),Vd p3 base]=bgX p3 e d l base []:=by unfold bgX;rw[E]
  rw[F] at f;exact f.to
 have Y:(H.pI<|H.mQ M.aK Cf.aF).length<=100:=by unfold H.pI;rw[js];omega
 refine(H.G7 (e:=3) (p:=q) (a:=z) (c:=A) (xs:=H.pI<|H.mQ M.aK Cf.aF) FA).Nf (X:=bgX p3 e d l base) (Z:=fun _ _=>Dm False) f ?_ ?_ ?_
 .intro done y h N w f;have K:done.length<=100:=by have:=w.length_le;simp at this;omega
  have f:=f.Fk
  obtain⟨a,c,f⟩:=Gk<|f.bF<|Vd p3 (base++done.map fun l:Int=>(⟨2,l,0,0⟩:Do))
  refine rW (yH f) O<|kY f fun h f=>am p3 f rfl<|aZ (c:=(⟨2,y,0,0⟩:Do).enc) rfl<|aZ (c:=(⟨2,y,0,0⟩:Do).enc) rfl<|dV (W:=4) (n:=1) (c:=1) f rfl rfl rfl fun k h f=>?_
  have f:=tB (enc:=Do.enc) (W:=4) (e:=56) (x:=⟨2,y,0,0⟩) f
  refine qT (enc:=Do.enc) (W:=4) (e:=56) (l:=base++done.map fun l:Int=>(⟨2,l,0,0⟩:Do)) (l2:=[⟨2,y,0,0⟩]) (a:=a) (c:=c) (a2:=some k) (c2:=1) f FG fun B D h f=>ax (b:=p3) f fun h f=>lJ f fun h f=> .inl ⟨rfl,?_⟩
  have f:=Gs (p3:=p3) (a:=B) (c:=D) (l:=base++done.map (fun l:Int=>(⟨2,l,0,0⟩:Do))++[⟨2,y,0,0⟩]) f rfl
  have e2:base++done.map (fun l:Int=>(⟨2,l,0,0⟩:Do))++[⟨2,y,0,0⟩]=base++(done++[y]).map fun l:Int=>(⟨2,l,0,0⟩:Do):=FF
  rw[e2] at f
  exact((f.dC (pG Pr 12 (qM 506) 96 e d l (.ready,none))<|Vd p3 (base++(done++[y]).map fun l:Int=>(⟨2,l,0,0⟩:Do))).F4).to
 .intro v h f;have f:=(f.bF<|bgX p3 e d l base<|H.pI<|H.mQ M.aK Cf.aF).Fk;have e2:base++(H.pI<|H.mQ M.aK Cf.aF).map (fun l:Int=>(⟨2,l,0,0⟩:Do))=base++As (H.mQ M.aK Cf.aF):=by unfold H.pI As;rw[BT];rfl
  rw[e2] at f
  refine qZ f fun h f=>rC ?_
  have f:=Ug<|f.dC (mk d ())<|pq g
  obtain⟨x,j,f⟩:=dN<|f.bF<|cD G Cf m M
  refine aC<|aA<|aA<|am m f (v:=I Cf.aJ) rfl ?_
  have f:=bY (m:=m) (x:=x) M j f
  have i:(base++As (H.mQ M.aK Cf.aF)).length<=1000:=by unfold As;simp;omega
  have J:base++As (H.mQ M.aK Cf.aF)++Fv Cf M 0=base++As (H.mQ M.aK Cf.aF):=g7 _
  exact aLf (t3':=t2) (base:=base++As (H.mQ M.aK Cf.aF)) hC hG R i (L:=L) T Cf.aJ.toNat 0 (d::g) h FA (by rw[J];exact f.to)
 .intro done y v h w f;obtain⟨P,f⟩:=(f.bF<|Dm False).yv;exact P.elim
def Wb (hC:Cf.Ok) (hG:Gb G) (u:iY Cf M.bH) (q:uk Cf M.cB) (t:Bb Cf M.aK (2^30)) (f:Hs G h L) [v:eB (cD G Cf m) L M L']
  (k:∀a c j,Hs G j (dos a c (M.ready Cf)::cD G Cf m M::L')->Q (.slice a (M.ready Cf).length c) j):IU 12 [IV m] h Q:=by
 have y:=hC.1
 rw[aNn] at k
 refine cW<|dM<|cS<|bW<|cK (v.of f) fun p3 h f=>?_
 obtain⟨x,f⟩:=bg<|f.bF<|cD G Cf m M
 obtain⟨g,f⟩:=nV f
 have i:=g.1
 refine aC<|aA<|am m f rfl<|dB ?_
 have f:=tI (m:=m) (x:=x) M g f
 have f:=Gs (p3:=p3) (a:=none) (c:=0) (l:=[]) (wY (enc:=Do.enc) (W:=4) (e:=56) f) rfl
 refine aLs (x:=x) (L:=L') FA u (fun h f=>?_) x.lc.length 0 h FA<|show Hs G h (Vd p3 []::vB G Cf m x M::L') from f.to
 obtain⟨g,f⟩:=nV<|f.bF<|vB G Cf m x M
 refine bW<|aC<|aA<|am m f rfl<|dB ?_
 have f:=bY (m:=m) (x:=x) M g f
 have f:=aNc f
 rw[i] at f ⊢
 have hle:(rZ M Cf.aB.toNat).length<=Cf.aB.toNat:=La
 have p:=Z2 (M:=M) (n:=Cf.aB.toNat)
 refine aMf (base:=rZ M Cf.aB.toNat) (L:=L') hC q FA (fun w h f=>?_) Cf.aB.toNat 0 [] h FA (by rw[show rZ M Cf.aB.toNat++Oe M 0=rZ M Cf.aB.toNat from g7 _];exact f.to)
 exact aLc (base:=rZ M Cf.aB.toNat++Oe M Cf.aB.toNat) (L:=L') hC hG t FG k f
end Go.Proofs.Z
namespace Go.Mc
open Go.Hm Go.At Go.Is Go.Ct Go.Nt
variable {C:bQ} {M M':bR} {d:Do} {S:Nat->aT}
def lN (C:bQ) (r:bR×Nat) (d:Do):bR×Nat:=
 let a:=r.1.mK C d
 if a.2≠0 then(a.1,r.2)
 else if d.mH≠1\/d.b≠2 then(a.1,r.2+1)
 else
  let b:=a.1.mK C ⟨0,d.a,0,0⟩
  if b.2=0 then(b.1,r.2+2) else(b.1,r.2+1)
def bR.round (C:bQ) (M:bR):bR×Nat:=(M.ready C).foldl (lN C) (M,0)
def wN (d:Do):Nat:=if d.mH=1/\d.b=2 then 2 else 1
def wE (d:Do):Nat:=if d.mH=0\/d.mH=3\/(d.mH=1/\d.b=2) then 1 else 0
def Sg (k:Dn C d M M'):M.eY.length<=M'.eY.length/\M'.eY.length<=M.eY.length+(if d.mH=0\/d.mH=3 then 1 else 0):=by
 cases k with
 |qE e a f=>rw[a];omega
 |ev i s v j b q e a o p f=>rw[a,bA1<|.inl b.1];simp
 |uB i g j b q e a w f=>rw[a];omega
 |sY i g s v j b u e a o k t p f=>rw[a,bA1<|.inr b];simp
structure jn (C:bQ) (S:Nat->aT) (N:Nat) (M:bR) (n:Nat) (k e:Nat) (r:bR×Nat):Prop where
 all:av C S N r.1
 n0:n<=r.2
 n1:r.2<=n+k
 l0:M.eY.length<=r.1.eY.length
 l1:r.1.eY.length<=M.eY.length+e
theorem zt (hC:C.Ok) (h:av C S N M):jn C S (N+4) M n (wN d) (wE d) (lN C (M,n) d):=by
 have a:=h.mK (d:=d) hC;have b:=Sg<|H0 (d:=d) hC h.inv h.lF;have up:∀{M:bR},av C S (N+2) M->av C S (N+4) M:=fun h=>⟨⟨h.inv.bH,h.inv.B1,h.inv.Pa,h.inv.gE,fun l g=>⟨(h.inv.aK l g).1,by have:=(h.inv.aK l g).2;omega⟩,h.inv.cB,by have:=h.inv.eY;omega⟩,h.lF,h.zh⟩;unfold lN;dsimp only;by_cases e:(M.mK C d).2≠0;rw[bA1 e];exact⟨up a,b0 _,FA,b.1,by unfold wE;grind⟩;rw[bA0 e];by_cases c2:d.mH≠1\/d.b≠2;rw[bA1 c2];exact⟨up a,FA,by unfold wN;rw[aaa];exact b0 _,b.1,by unfold wE;grind⟩;rw[bA0 c2];have f:=a.mK (d:=⟨0,d.a,0,0⟩) hC;have i:=Sg<|H0 (d:=⟨0,d.a,0,0⟩) hC a.inv a.lF;rw[bA1<|.inl rfl] at i;have j:wN d=2:=by unfold wN;rw[aac]
 have e2:wE d=1:=by unfold wE;rw[aac]
 rw[aaa] at b;split;exact⟨f,FA,FA,FN,FN⟩;exact⟨f,FA,FA,FN,FN⟩
def aN6 (hC:C.Ok):∀{l:IF} {N:Nat} {M:bR} {n:Nat},av C S N M->jn C S (N+4*l.length) M n (l.map wN).sum (l.map wE).sum (l.foldl (lN C) (M,n)):=by
 intro l;induction l with
 |nil=>intro N M n h;exact⟨h,b0 _,b0 _,b0 _,b0 _⟩
 |cons d l e=>
  intro N M n h;have a:=zt (d:=d) hC h (n:=n);have b:jn C S (N+4+4*l.length) (lN C (M,n) d).1 (lN C (M,n) d).2 (l.map wN).sum (l.map wE).sum (l.foldl (lN C)<|lN C (M,n) d):=e a.all (n:=(lN C (M,n) d).2);rw[kd,kd,EF,EF,CA,hK];have a1:=a.n0;have f:=a.n1;have a3:=a.l0;have a4:=a.l1;have g:=b.n0;have i:=b.n1;have j:=b.l0;have k:=b.l1;refine⟨?_,FA,FA,FA,FA⟩;have:=b.all;rw[show N+4+4*l.length=N+4*(l.length+1) by omega] at this;exact this
def Zr {α:Type} {f:α->Nat} {k:Nat}:∀{l:List α},(∀x∈l,f x<=k)->(l.map f).sum<=k*l.length
 |[],_=>m6 _
 |x::l,h=>by
  have b:=h x FF;have e:=Zr (f:=f) (k:=k) (l:=l) fun y a=>h y (by simp[a]);rw[kd,EF,hK,Nat.mul_add];omega
def My:((List.range n).filter p).length<=n:=by
 have:=qv p<|List.range n;simp at this ⊢;exact this
def aLr:((((List.range 4).filter p).map fun w:Nat=>(⟨1,c,w,0⟩:Do)).map wN).sum<=5/\((((List.range 4).filter p).map fun w:Nat=>(⟨1,c,w,0⟩:Do)).map wE).sum<=1:=by
 have e:List.range 4=[0,1,2,3]:=rfl;rw[e];cases h0:p 0<;>cases h1:p 1<;>cases h2:p 2<;>cases h3:p 3<;>simp[DB,h0,h1,h2,h3,wN,wE]
def ez {p:Nat->Nat->Bool}:∀{n:Nat},((((List.range n).flatMap fun c=>((List.range 4).filter<|p c).map fun w:Nat=>(⟨1,c,w,0⟩:Do))).map wN).sum<=5*n/\((((List.range n).flatMap fun c=>((List.range 4).filter<|p c).map fun w:Nat=>(⟨1,c,w,0⟩:Do))).map wE).sum<=n/\(((List.range n).flatMap fun c=>((List.range 4).filter<|p c).map fun w:Nat=>(⟨1,c,w,0⟩:Do))).length<=4*n
 |0=>⟨b0 _,b0 _,b0 _⟩
 |n+1=>by
  obtain⟨a,b,c⟩:=ez (p:=p) (n:=n);obtain⟨d1,d2⟩:=aLr (c:=n) (p:=p n);have d3:=My (n:=4) (p:=p n);rw[dx (n:=n),l9,kt,kt,CC,CC,cV];simp only[AD,EJ,g7,js] at*;omega
def Om:((M.ready C).map wN).sum<=6*C.aB.toNat+C.aF+C.aJ.toNat/\((M.ready C).map wE).sum<=2*C.aB.toNat+C.aJ.toNat/\(M.ready C).length<=5*C.aB.toNat+C.aF+C.aJ.toNat:=by
 obtain⟨d1,d2,d3⟩:=ez (p:=fun c w=>decide<|M.cB c w≠[]) (n:=C.aB.toNat);have E8:∀{l:EW} {f:Nat->Do},(∀i,(f i).mH≠1)->((l.map f).map wN).sum<=l.length:=fun {l f} h=>by
  have:=Zr (f:=wN) (k:=1) (l:=l.map f) fun x b=>by
   obtain⟨i,_,rfl⟩:=eV.1 b;unfold wN;rw[bA0 fun e=>h i e.1];exact b0 _
  rw[js] at this;omega
 have a:∀{l:EW} {f:Nat->Do},((l.map f).map wE).sum<=l.length:=fun {l f}=>by
  have:=Zr (f:=wE) (k:=1) (l:=l.map f) fun x b=>by unfold wE;split<;>omega
  rw[js] at this;omega
 have j:∀{l:EW} {f:Nat->Do},(∀i,(f i).mH=2)->((l.map f).map wE).sum<=0:=fun {l f} h=>by
  have:=Zr (f:=wE) (k:=0) (l:=l.map f) fun x b=>by
   obtain⟨i,_,rfl⟩:=eV.1 b;unfold wE;rw[bA0<|by have:=h i;omega];exact b0 _
  omega
 unfold bR.ready;simp only[kt,CC,cV];have s1:=E8 (l:=(List.range C.aB.toNat).filter fun i:Nat=> !(M.aD i).over&& !M.aH i) (f:=fun i:Nat=>(⟨0,i,0,0⟩:Do)) fun i=>FN;have s2:=a (l:=(List.range C.aB.toNat).filter fun i:Nat=> !(M.aD i).over&& !M.aH i) (f:=fun i:Nat=>(⟨0,i,0,0⟩:Do));have s3:=My (n:=C.aB.toNat) (p:=fun i:Nat=> !(M.aD i).over&& !M.aH i);have t1:=E8 (l:=(List.range C.aF).filter fun l=> !(M.aK l).1.busy&&decide ((M.aK l).1.aH≠[])) (f:=fun l:Nat=>(⟨2,l,0,0⟩:Do)) fun i=>FN;have t2:=j (l:=(List.range C.aF).filter fun l=> !(M.aK l).1.busy&&decide ((M.aK l).1.aH≠[])) (f:=fun l:Nat=>(⟨2,l,0,0⟩:Do)) fun i=>rfl;have t3:=My (n:=C.aF) (p:=fun l=> !(M.aK l).1.busy&&decide ((M.aK l).1.aH≠[]));have o:=E8 (l:=(List.range C.aJ.toNat).filter fun g:Nat=>M.gX C g) (f:=fun g:Nat=>(⟨3,g,0,0⟩:Do)) fun i=>FN;have q:=a (l:=(List.range C.aJ.toNat).filter fun g:Nat=>M.gX C g) (f:=fun g:Nat=>(⟨3,g,0,0⟩:Do));have t:=My (n:=C.aJ.toNat) (p:=fun g:Nat=>M.gX C g);simp only[js] at*;omega
def aGi (hC:C.Ok) (h:av C S N M):jn C S (N+400) M 0 (6*C.aB.toNat+C.aF+C.aJ.toNat) (2*C.aB.toNat+C.aJ.toNat) (M.round C):=by
 have a:jn C S (N+4*(M.ready C).length) M 0 ((M.ready C).map wN).sum ((M.ready C).map wE).sum (M.round C):=aN6 hC (l:=M.ready C) (n:=0) h;obtain⟨i,j,r3⟩:=Om (C:=C) (M:=M);have g:=hC.1;have e:=bQ.fC hC;exact⟨(fun f h=>⟨⟨h.inv.bH,h.inv.B1,h.inv.Pa,h.inv.gE,fun l b=>⟨(h.inv.aK l b).1,by have:=(h.inv.aK l b).2;omega⟩,h.inv.cB,by have:=h.inv.eY;omega⟩,h.lF,h.zh⟩) FA a.all,a.n0,by have:=a.n1;omega,a.l0,by have:=a.l1;omega⟩
def bR.yJ (C:bQ):Nat->Nat->bR->Nat×bR
 |0,k,M=>(k,M)
 |f+1,k,M=>if M.over C then(k,M) else if(M.round C).2=0/\(M.round C).1.over C=false then(k+f+1,(M.round C).1) else bR.yJ C f (k+1) (M.round C).1
end Go.Mc
namespace Go.Proofs.Z
open Go.Hm Go.At Go.Mc Go.Ct Go.Nt Go.Is
variable {Cf:bQ} {M:bR}
section
def aQ0 {d:Do}:(M.Ao Cf [d] 0).2.2=(M.mK Cf d).2:=by
 unfold bR.Ao;split;rfl;rename_i h;have:(M.mK Cf d).2=0:=aW.1 h;rw[this];rfl
variable {G:Bg} {h:AH} {S:Nat->aT}
def so {cl:Nat} {l:IF} {r:bR×Nat} (hC:Cf.Ok) (hG:Gb G) (J:l.length<=1000) (B:∀u,Hs G u (cD G Cf m r.1::L)->Q (I r.2) u):
  ∀(f i N n:Nat) (M:bR) (h:AH),i+f=l.length->n<=2*i->Mc.av Cf S N M->N+4*f<=2^27->(l.drop i).foldl (lN Cf) (M,n)=r->Hs G h (dos al cl l::cD G Cf m M::L)->
   Dd 13 2 [] Q [.func (.func 17) #[IV m] #[],I n,.slice al l.length cl,I l.length,I i] h:=by
 intro f
 induction f with
 |zero=>
  intro i N n M h A D hA y k g
  rw[eg FA] at k
  subst k
  exact bW (bE<|aab<|B _ g.tail)
 |succ f F=>
  intro i N n M h A D hA y k g
  obtain⟨d,E,z⟩:=rK (l:=l) (i:=i) FA
  rw[z,CA] at k
  have w:=zt (d:=d) hC hA (n:=n)
  have q:=hA.mK (d:=d) hC
  have next:∀(h:AH),Hs G h (dos al cl l::cD G Cf m (lN Cf (M,n) d).1::L)->Dd 13 2 [] Q [.func (.func 17) #[IV m] #[],I (lN Cf (M,n) d).2,.slice al l.length cl,I l.length,I<|(i:Int)+1] h:=fun h g=>by
   have t:=w.n1;have a3:wN d<=2:=by unfold wN;split<;>omega
   exact F (i+1) (N+4) (lN Cf (M,n) d).2 (lN Cf (M,n) d).1 h FA FA w.all FA k g
  refine bW<|bE<|aae<|bW<|Ac (l:=l) (a:=al) (c:=cl) (enc:=Do.enc) (e:=56) g FC FA (by rw[aM];exact E)<|cK g fun p3 h g=>ax (b:=p3) g fun h g=>?_
  refine an p3 g (l:=d.enc) rfl rfl<|aZ (c:=d.enc) rfl<|dV (W:=4) (n:=1) (c:=1) g rfl rfl rfl fun a h g=>?_
  have g:Hs G h (dY 4 56 (some a) 1 (1,d.enc)::cD G Cf m M::sp [aN p3 0 d.enc,dos al cl l]::L):=g.to
  refine qB rfl<|ub (d:=d) (M:=M) hC hG hA.inv FA g fun h g=>aQ rfl<|aQ rfl ?_
  have g:=(g.bF<|sp [aN p3 0 d.enc,dos al cl l]).Fk
  rw[aQ0]
  refine bU<|bG (fun j=>?_) fun j=>?_
  .have e:lN Cf (M,n) d=((M.mK Cf d).1,n):=by unfold lN;dsimp only;rw[bA1 j]
   rw[e] at next
   dsimp only at next
   exact bW<|aad<|next h g.to
  refine bW<|aad<|aA<|am p3 g (v:=I d.mH) rfl<|bU<|bG (fun c2=>?_) fun c2=>?_
  .have e:lN Cf (M,n) d=((M.mK Cf d).1,n+1):=by unfold lN;dsimp only;rw[bA0 j,bA1<|.inl c2]
   rw[e] at next
   dsimp only at next
   exact aad<|next h g.tail
  refine aA<|am p3 g (v:=I d.b) rfl<|bU<|bG (fun c3=>?_) fun c3=>bW ?_
  .have e:lN Cf (M,n) d=((M.mK Cf d).1,n+1):=by unfold lN;dsimp only;rw[bA0 j,bA1<|.inr c3]
   rw[e] at next
   dsimp only at next
   exact bW<|aad<|next h g.tail
  refine aA<|am p3 g (v:=I d.a) rfl<|aZ (c:=(⟨0,d.a,0,0⟩:Do).enc) rfl<|aZ (c:=(⟨0,d.a,0,0⟩:Do).enc) rfl<|dV (W:=4) (n:=1) (c:=1) g rfl rfl rfl fun t h g=>?_
  have g:Hs G h (dY 4 56 (some t) 1 (1,(⟨0,d.a,0,0⟩:Do).enc)::cD G Cf m (M.mK Cf d).1::dos al cl l::L):=g.to
  refine qB rfl<|ub (d:=⟨0,d.a,0,0⟩) (M:=(M.mK Cf d).1) hC hG q.inv FA g fun h g=>aQ rfl<|aQ rfl ?_
  rw[aQ0]
  refine cC<|bG (fun p=>bW ?_) fun p=>bW ?_
  .have e:lN Cf (M,n) d=(((M.mK Cf d).1.mK Cf ⟨0,d.a,0,0⟩).1,n+2):=by unfold lN;dsimp only;rw[bA0 j,aaa,bA1 p]
   rw[e] at next
   dsimp only at next
   exact aad<|aad<|next h g.to
  .have e:lN Cf (M,n) d=(((M.mK Cf d).1.mK Cf ⟨0,d.a,0,0⟩).1,n+1):=by unfold lN;dsimp only;rw[bA0 j,aaa,bA0 p]
   rw[e] at next
   dsimp only at next
   exact aad<|next h g.to
def X8 (hC:Cf.Ok) (hG:Gb G) (hA:Mc.av Cf S N M) (j:N<=2^26) (b:Hs G h L) [i:eB (cD G Cf m) L M L'] (f:∀e,Hs G e (cD G Cf m (M.round Cf).1::L')->Q (I (M.round Cf).2) e):IU 13 [IV m] h Q:=by
 obtain⟨p,q,r3⟩:=Om (C:=Cf) (M:=M);have k:=hC.1;have o:=hC.2.1;have g:=bQ.fC hC;refine cW<|dM<|cS<|bW<|Wb (Cf:=Cf) (M:=M) hC hG hA.inv.bH hA.inv.cB.len (hA.inv.aK.h FA) (i.of b) fun a c h b=>dB ?_;exact so (S:=S) (l:=M.ready Cf) (r:=M.round Cf) hC hG FA f (M.ready Cf).length 0 N 0 M h FA (b0 _) hA FA rfl b
end
variable {G:Bg} {h:AH} {S:Nat->aT}
def Te {most:Nat} (hC:Cf.Ok) (hG:Gb G) (hA:Mc.av Cf S N M) (T:N+400*most<=2^26) (a:Hs G h L) [Z:eB (cD G Cf m) L M L']
  (w:∀u,Hs G u (cD G Cf m (M.yJ Cf most 0).2::L')->Q (.tuple ⟨[I (M.yJ Cf most 0).1,.bool<|(M.yJ Cf most 0).2.over Cf]⟩) u):IU 7 [IV m,I most] h Q:=by
 obtain⟨R,F⟩:∃R,M.yJ Cf most 0=R:=⟨_,rfl⟩
 rw[F] at w
 refine cW<|eT (Z.of a) fun t h a=>eT a fun y h a=>am t a rfl<|dM<|cS<|bW<|cK a fun p1 h a=>ax (b:=p1) a fun h a=>am t a rfl<|am y a rfl<|cW<|eT a fun q2 h a=>eT a fun v h a=>oE a fun d h a=>?_
 intro e W
 refine rI a fun l h a=>xQ rfl ?_
 have loop:∀(z:Value->AH->Prop),(∀(st:LoopState) (pd:Option Code) (k:Nat) (N':Nat) (M':bR) u,(st= .ready/\pd=none\/st= .done/\pd=some (.exit 0))->Mc.av Cf S N' M'->N'<=2^26->(k,M')=R->
    Hs G u (cD G Cf m M'::aN q2 0 [IV m]::aN v 0 [I most]::aN t 0 [IV m]::aN y 0 [I most]::aN p1 0 [I k]::pG Pr 7 (qM 122) 28 e d l (st,pd)::mk d ()::L')->z (.tuple ⟨[]⟩) u)->
   ∀(f no N:Nat) (i:bR) (h:AH),f+no=most->Mc.av Cf S N i->N+400*f<=2^26->i.yJ Cf f no=R->
   Hs G h (cD G Cf m i::aN q2 0 [IV m]::aN v 0 [I most]::aN t 0 [IV m]::aN y 0 [I most]::aN p1 0 [I no]::pG Pr 7 (qM 122) 28 e d l (.ready,none)::mk d ()::L')->
   Dd 39 2 [] z [.func (.yield l) #[] #[],IV q2,IV v,I<|(no:Int)+1] h:=by
  intro z B f
  induction f with
  |zero=>
   intro no N i h O hA P g a
   exact bW (am v a rfl<|Ak<|aab<|B _ _ no N i h (.inl ⟨rfl,rfl⟩) hA FA g a)
  |succ f J=>
   intro no N i h O hA P g a
   unfold bR.yJ at g
   refine bW<|am v a rfl<|Ak<|aae<|am q2 a rfl<|Nb (Cf:=Cf) (M:=i) hC hG hA.inv.cB.len (hA.inv.aK.h FA) a fun h a=>cX<|fM<|eA (fun A=>?_) fun A=>bW ?_
   .rw[A,bA1 rfl] at g;exact B _ _ no N i h (.inl ⟨rfl,rfl⟩) hA FA g a
   rw[A,bA0 Bool.false_ne_true] at g
   have j:=(aGi hC hA).all
   have E:((no:Int)+1)=((no+1:Nat):Int):=FA
   refine am q2 a rfl<|X8 (S:=S) (M:=i) hC hG hA FA a fun h a=>?_
   refine rW (yH a) W<|kY a fun h a=>ax (b:=p1) a fun h a=>cC<|bG (fun Y=>?_) fun Y=>?_
   .refine am t a rfl (Nb (Cf:=Cf) (M:=(i.round Cf).1) hC hG j.inv.cB.len (j.inv.aK.h FA) a fun h a=>cX<|fM<|eA (fun q=>?_) fun q=>?_)
    .rw[q,bA0 FF] at g;refine lJ a fun h a=>cX<|cS<|bW<|aad ?_;rw[E] at a ⊢;exact J (no+1) (N+400) _ h FA j FA g a.to
    .rw[bA1 ⟨FA,q⟩] at g;refine am y a rfl<|ax (b:=p1) a fun h a=>lJ a fun h a=>cX<|gF<|B _ _ (no+f+1) (N+400) (i.round Cf).1 h (.inr ⟨rfl,rfl⟩) j FA g ?_;rw[show((no+f+1:Nat):Int)=most by omega];exact a.to
   .rw[aaa] at g;refine lJ a fun h a=>cX<|cS<|bW<|aad ?_;rw[E] at a ⊢;exact J (no+1) (N+400) _ h FA j FA g a.to
 refine cW<|am q2 a rfl<|dM<|cS<|bW ?_
 refine loop _ (fun st pd k N' M' h D p U g a=>?_) most 0 N M h FA hA T F a.to
 rw[<-g] at w
 rcases D with⟨rfl,rfl⟩|⟨rfl,rfl⟩
 .exact qZ a fun h a=>rC<|bI a fun rr h a=>am p1 a rfl<|am t a rfl<|Nb (Cf:=Cf) (M:=M') hC hG p.inv.cB.len (p.inv.aK.h FA) a fun h a=>cR (am p1 a rfl jF)<|qP a fun h a=>oA<|w _ a.to
 .exact Kv a fun h a=>N8 rfl<|bI a fun rr h a=>am p1 a rfl<|am t a rfl<|Nb (Cf:=Cf) (M:=M') hC hG p.inv.cB.len (p.inv.aK.h FA) a fun h a=>cR (am p1 a rfl jF)<|qP a fun h a=>oA<|w _ a.to
end Go.Proofs.Z
namespace Go.Pc
open Go.Hm Go.Ct
variable {M N':IA}
section
structure CL where
 st:Int
 d:Ln
 qO:Bool
 aw:Bool
 gi:Bool
 gs:Int
 gd:Ln
abbrev CLs:=Nat->CL
def isN (k:Int) (i l:Nat) (n:aG):Bool:=decide<|n.kind=k/\n.core=(i:Int)/\n.aI=(l:Int)
def fS (k:Int) (i l:Nat) (N:IA):Nat:=N.countP<|isN k i l
theorem dW {k:Int} {n:aG} {N:IA}:fS k i l (n::N)=fS k i l N+if n.kind=k/\n.core=(i:Int)/\n.aI=(l:Int) then 1 else 0:=by
 unfold fS isN;grind
theorem Kq {k:Int} {N:IA}:fS k i l (M++N)=fS k i l M+fS k i l N:=u3
theorem yr {k:Int}:fS k i l []=0:=rfl
def aIh {k:Int} {N:IA} (h:M.Perm N):fS k i l M=fS k i l N:=h.countP_eq _
theorem I6 {k:Int} {N:IA} (h:0<fS k i l N):∃n∈N,n.kind=k/\n.core=(i:Int)/\n.aI=(l:Int):=by
 obtain⟨n,b,a⟩:=AG.1 h;exact⟨n,b,cP a⟩
theorem gS {k:Int} {N:IA} {n:aG} (h:n∈N) (a:n.kind=k) (b:n.core=(i:Int)) (e:n.aI=(l:Int)):0<fS k i l N:=
 AG.2 ⟨n,h,cL FA⟩
def F5 (c:CL) (p:Nat):Int:=if c.st≠0 then c.st else if c.gi=true/\0<p then c.gs else 0
def yU (c:CL):Ln:=if c.st≠0 then c.d else c.gd
def pd (l:Nat) (r:bP) (N:IA) (i:Nat):Nat:=fS 3 i l N+fS 3 i l r.aH
def HH (l:Nat) (r:bP) (c:CLs) (N:IA) (i:Nat):Int:=F5 (c i)<|pd l r N i
def By (r:bP) (i:Nat):Nat:=if r.busy=true/\r.cG=false/\r.aX.kind≠0/\r.aX.core=(i:Int) then 1 else 0
def Ce (r:bP) (i:Nat):Nat:=if r.cG=true/\r.aX.core=(i:Int) then 1 else 0
structure gB (l:Nat) (r:bP) (m V:Ln) (c:CLs) (N:IA):Prop where
 jA:vX l r
 ks:r.busy=true->r.aX.kind=0\/r.aX.kind=1\/r.aX.kind=2
 kg:r.cG=true->r.aX.kind≠0
 kV:r.kV=true->r.cG=true
 nc:∀n∈N,n.aI=l/\0<=n.core/\n.core<4
 ex:∀i,i<4->(c i).st≠0\/(c i).qO=true->(c i).gi=false
 A7:∀i,i<4->(0<=(c i).st/\(c i).st<=4)/\(0<=(c i).gs/\(c i).gs<=4)
 t1:∀i,i<4->fS 1 i l N+fS 2 i l N+fS 1 i l r.aH+fS 2 i l r.aH+By r i+fS 8 i l N+fS 9 i l N=(c i).qO.toNat
 t2:∀i,i<4->fS 3 i l N+fS 3 i l r.aH+fS 10 i l N=(c i).gi.toNat
 t3:∀i,i<4->fS 11 i l N+fS 5 i l N=(r.dS i).toNat
 t4:∀i,i<4->fS 8 i l N+fS 4 i l N=Ce r i
 a1:∀i,i<4->(c i).qO=true->HH l r c N i≠2/\HH l r c N i≠4
 a2:∀i,i<4->(c i).qO=true->(c i).aw=false->HH l r c N i=0
 rq:∀n,n∈N\/n∈r.aH->n.kind=1\/n.kind=2->(n.kind=2↔(c n.core.toNat).aw=true)
 rs:r.busy=true->r.cG=false->r.aX.kind≠0->(r.aX.kind=2↔(c r.aX.core.toNat).aw=true)
 c1:∀i,i<4->fS 5 i l N=0->fS 8 i l N=0->(HH l r c N i=1↔r.sh i=true)/\(2<=HH l r c N i↔r.owner=(i:Int))
 c2:∀i,i<4->HH l r c N i=2\/HH l r c N i=4->∀j,j<4->j≠i->HH l r c N j=0
 Hv:∀i,i<4->HH l r c N i=2\/HH l r c N i=4->∀n∈N,n.kind=5->n.oU=false
 gN:∀n∈N,n.kind=8->(n.state=1\/n.state=2\/n.state=4)/\(n.state=4↔(c n.core.toNat).aw=true)/\
  (n.state=1->r.sh n.core.toNat=true/\HH l r c N n.core.toNat=0/\∀j,j<4->HH l r c N j≠2/\HH l r c N j≠4)/\
  (n.state≠1->r.owner=n.core/\∀j:Nat,j<4->r.sh j=false/\((j:Int)≠n.core->HH l r c N j=0))/\
  (n.state=2->HH l r c N n.core.toNat=0)/\(HH l r c N n.core.toNat=0->(n.d0,n.d1)=V)
 pN:∀n∈N,n.kind=11->n.state=(if r.aX.kind=1 then 1 else 0)/\(r.sh n.core.toNat=true\/r.owner=n.core)/\(r.aX.kind=1->r.owner=n.core)
 rN:∀n∈N,n.kind=5->(r.aX.kind≠1->HH l r c N n.core.toNat=0)/\
  (r.aX.kind=1->r.owner=n.core/\n.state=HH l r c N n.core.toNat/\((n.state=1/\n.oU=false)\/(n.state=3/\n.oU=true)))/\(n.oU=true->(n.d0,n.d1)=V)
 uN:∀n,n∈N\/n∈r.aH->n.kind=3->(n.d0,n.d1)=(c n.core.toNat).gd/\((c n.core.toNat).gs=3\/(c n.core.toNat).gs=4->n.oU=true)
 c3:∀i,i<4->HH l r c N i≠0->yU (c i)=V
 c5:(∀i,i<4->HH l r c N i≠3/\HH l r c N i≠4)->(∀n∈N,n.kind=5->n.oU=false)->m=V
 k2:r.busy=true->r.cG=false->r.aX.kind≠1->∀j:Nat,j<4->(r.aX.kind=2->(j:Int)≠r.aX.core)->r.sh j=true\/r.owner=(j:Int)->r.dS j=true
variable {r:bP} {m V:Ln} {c:CLs} {N:IA}
theorem gB.cH (h:gB l r m V c N) (p:N.Perm N'):gB l r m V c N':=by
 have e:∀k i,fS k i l N'=fS k i l N:=fun k i=>(aIh p).symm;have a:∀i,HH l r c N' i=HH l r c N i:=fun i=>by unfold HH pd;rw[e]
 have em:∀n,n∈N'↔n∈N:=FB;constructor;case jA=>exact h.jA
 case ks=>exact h.ks
 case kg=>exact h.kg
 case kV=>exact h.kV
 case nc=>intro n f;exact h.nc n<|(em n).1 f
 case ex=>exact h.ex
 case A7=>exact h.A7
 case t1=>intro i b;simp only[e];exact h.t1 i b
 case t2=>intro i b;simp only[e];exact h.t2 i b
 case t3=>intro i b;simp only[e];exact h.t3 i b
 case t4=>intro i b;simp only[e];exact h.t4 i b
 case a1=>simp only[a];exact h.a1
 case a2=>simp only[a];exact h.a2
 case rq=>simp only[em];exact h.rq
 case rs=>exact h.rs
 case c1=>simp only[e,a];exact h.c1
 case c2=>simp only[a];exact h.c2
 case Hv=>simp only[a,em];exact h.Hv
 case gN=>simp only[a,em];exact h.gN
 case pN=>simp only[em];exact h.pN
 case rN=>simp only[a,em];exact h.rN
 case uN=>simp only[em];exact h.uN
 case c3=>simp only[a];exact h.c3
 case c5=>simp only[a,em];exact h.c5
 grind[k2]
end
variable {α:Type} {y:aG} {d:Ln} {w:IA}
section
variable {r:bP} {m V:Ln} {c:CLs} {N:IA} {n:aG}
theorem jT (h:0<=n.core/\n.core<4):∃i:Nat,i<4/\n.core=(i:Int)/\n.core.toNat=i:=⟨n.core.toNat,FA,FA,rfl⟩
theorem gB.aRs (h:gB l r m V c (n::N)) (y:n.kind=1\/n.kind=2\/n.kind=3):gB l (r.lF n) m V c N:=by
 have j:=h.nc n FF;have o:∀k i,fS k i l (r.lF n).aH=fS k i l r.aH+if n.kind=k/\n.core=(i:Int)/\n.aI=(l:Int) then 1 else 0:=fun k i=>by
  show fS k i l (r.aH++[n])=_;grind[Kq,dW,yr]
 have e:∀i,HH l _ c N i=HH l r c (n::N) i:=fun i=>by
  unfold HH pd;rw[o,dW];grind
 have g:∀k i,(k=4\/k=5\/k=8\/k=9\/k=10\/k=11)->fS k i l (n::N)=fS k i l N:=fun k i q=>by
  rw[dW,aaa];omega
 have em:∀x,x∈N->x∈n::N:=FB;have p:∀x,x∈(r.lF n).aH↔x∈r.aH\/x=n:=fun x=>by
  show x∈r.aH++[n]↔_;simp
 have t:∀i,By (r.lF n) i=By r i:=fun _=>rfl;have e2:∀i,Ce (r.lF n) i=Ce r i:=fun _=>rfl;constructor;exact Ie h.jA j.1 j.2 FA;exact h.ks;exact h.kg;exact h.kV;intro x b;exact h.nc x<|em x b;exact h.ex;exact h.A7;intro i a;have:=h.t1 i a;grind[dW];intro i a;have:=h.t2 i a;grind[dW];intro i a;have:=h.t3 i a;rw[g 11 i FA,g 5 i FA] at this;exact this;intro i a;have:=h.t4 i a;grind;simp only[e];exact h.a1;simp only[e];exact h.a2;intro x b;refine h.rq x ?_;grind;exact h.rs;intro i a v w;rw[e];exact h.c1 i a FB FB;simp only[e];exact h.c2;simp only[e];exact fun i a f x b=>h.Hv i a f x<|em x b;simp only[e];exact fun x b=>h.gN x<|em x b;exact fun x b=>h.pN x<|em x b;simp only[e];exact fun x b=>h.rN x<|em x b;intro x b;refine h.uN x ?_;grind;simp only[e];exact h.c3;simp only[e];exact fun f u=>h.c5 f FB;exact h.k2
theorem gB.aFv (h:gB l r m V c (n::N)) (T:n.kind=4):r.cG=true/\r.aX.core=n.core/\gB l r.kW m V c N:=by
 have w:=h.nc n FF;obtain⟨i0,q,y,A⟩:=jT w.2;have t:Ce r i0=1:=by
  have:=h.t4 i0 q;rw[dW (k:=4),aac] at this;have:Ce r i0<=1:=by unfold Ce;split<;>omega
  omega
 have f:r.cG=true/\r.aX.core=n.core:=by unfold Ce at t;split at t<;>grind
 refine⟨f.1,f.2,?_⟩;have E:=h.jA.sD<|.inl f.1;have R:∀i,i<4->r.dS i=false:=fun i a=>by
  grind[bP.kK]
 have o:∀k i,k≠4->fS k i l (n::N)=fS k i l N:=fun k i D=>by
  rw[dW,aaa];omega
 have g:∀i,HH l r.kW c N i=HH l r c _ i:=fun i=>by
  unfold HH pd;rw[o 3 i FA];rfl
 have em:∀x,x∈N->x∈n::N:=FB;have F:∀x∈N,x.kind≠5/\x.kind≠11:=fun x b=>by
  have p:=h.nc x<|em x b;obtain⟨j,B,z,_⟩:=jT p.2;have K:=h.t3 j B;grind[gS]
 have I:∀i,i<4->fS 8 i l N=0/\fS 4 i l N=0:=fun i a=>by
  have:=h.t4 i a;grind[dW,Ce]
 have u:∀x∈N,x.kind≠8:=fun x b e=>by
  have p:=h.nc x<|em x b;grind[jT,gS]
 constructor;exact Iz h.jA E;intro e;cases e;intro e;cases e;intro e;cases e;intro x b;exact h.nc x<|em x b;exact h.ex;exact h.A7;intro i a;have:=h.t1 i a;simp_all[By,bA0,bP.kW];intro i a;have:=h.t2 i a;rw[o 3 i FA,o 10 i FA] at this;exact this;intro i a;have:=h.t3 i a;rw[o 11 i FA,o 5 i FA] at this;exact this;grind[Ce,bP.kW];simp only[g];exact h.a1;simp only[g];exact h.a2;intro x b;exact h.rq x<|b.imp (em x) id;intro e;cases e;intro i a O P;rw[g];exact h.c1 i a FB FB;simp only[g];exact h.c2;grind;grind;grind;grind;intro x b;exact h.uN x<|b.imp (em x) id;simp only[g];exact h.c3;simp only[g];exact fun v J=>h.c5 v FB;intro e;cases e
theorem gB.aYb (h:gB l r m V c (n::N)) (Y:n.kind=9) (q:i<4) (D:n.core=(i:Int)):(c i).qO=true/\gB l r m V (bD c i {c i with qO:=false,aw:=false}) N:=by
 have W:=h.nc n FF;have kG:(c i).qO=true:=by
  have:=h.t1 i q;rw[dW (k:=9),aac] at this;cases A:(c i).qO with
  |true=>rfl
  |false=>grind
 refine⟨kG,?_⟩;have em:∀x,x∈N->x∈n::N:=FB;have t:∀k j,k≠9->fS k j l (n::N)=fS k j l N:=fun k j F=>by
  rw[dW,aaa];omega
 have O:fS 1 i l N=0/\fS 2 i l N=0/\fS 1 i l r.aH=0/\fS 2 i l r.aH=0/\By r i=0/\fS 8 i l N=0/\fS 9 i l N=0:=by
  have:=h.t1 i q;rw[t 1 i FA,t 2 i FA,t 8 i FA,dW,aac,kG] at this;grind
 have p:∀j,HH l r (bD c i {c i with qO:=false,aw:=false}) N j=HH l r c (n::N) j:=fun j=>by
  unfold HH pd;rw[t 3 j FA];unfold bD;split;rename_i e;subst e;rfl;rfl
 have u:∀j,(bD c i _) j=if j=i then {c i with qO:=false,aw:=false} else c j:=fun j=>rfl
 have E:∀j,yU ((bD c i _) j)=yU (c j):=fun j=>by rw[u];grind[yU]
 have o:∀j,((bD c i {c i with qO:=false,aw:=false}) j).gd=(c j).gd/\((bD c i {c i with qO:=false,aw:=false}) j).gs=(c j).gs/\((bD c i {c i with qO:=false,aw:=false}) j).gi=(c j).gi/\((bD c i {c i with qO:=false,aw:=false}) j).st=(c j).st:=FB;have I:∀x,x∈N\/x∈r.aH->x.kind=1\/x.kind=2\/x.kind=8->x.core.toNat≠i:=by
  intro x a K e;have B:x.aI=l/\0<=x.core/\x.core<4:=by
   rcases a with a|a;exact h.nc x<|em x a;have:=h.jA.aH x a;grind
  have J:x.core=(i:Int):=FA
  rcases a with a|a;grind[gS];have Z:=(h.jA.aH x a).2.2;grind[gS]
 constructor;case jA=>exact h.jA
 case ks=>exact h.ks
 case kg=>exact h.kg
 case kV=>exact h.kV
 case nc=>intro x a;exact h.nc x<|em x a
 case ex=>intro j f a;rw[(o j).2.2.1];refine h.ex j f ?_;grind
 case A7=>intro j f;rw[(o j).2.2.2,(o j).2.1];exact h.A7 j f
 case t1=>
  intro j f;have:=h.t1 j f;grind[dW]
 case t2=>intro j f;have:=h.t2 j f;grind
 case t3=>intro j f;have:=h.t3 j f;grind
 case t4=>intro j f;have:=h.t4 j f;grind
 case a1=>intro j f A;rw[p];refine h.a1 j f ?_;grind
 case a2=>intro j f A B;rw[p];refine h.a2 j f ?_ ?_<;>grind
 case rq=>intro x a w;rw[u,bA0 FB];exact h.rq x FB w
 case rs=>intro b g P;have:=O.2.2.2.2.1;unfold By at this;rw[u,bA0 fun e=>by have:=h.jA.core;grind];exact h.rs b g P
 case c1=>intro j f T U;rw[p];exact h.c1 j f FB FB
 case c2=>simp only[p];exact h.c2
 case Hv=>simp only[p];exact fun j f v x a=>h.Hv j f v x<|em x a
 case gN=>intro x a z;simp only[p];rw[u,bA0 FB];exact h.gN x (em x a) z
 case pN=>exact fun x a=>h.pN x<|em x a
 case rN=>simp only[p];exact fun x a=>h.rN x<|em x a
 case uN=>intro x a y;rw[(o _).1,(o _).2.1];exact h.uN x FB y
 case c3=>intro j f;rw[p,E];exact h.c3 j f
 case c5=>simp only[p];exact fun v R=>h.c5 v FB
 grind[k2]
theorem cQ {f:Nat->α} {x:α}:bD f i x i=x:=by simp_all[bD,bA1]
theorem bO {f:Nat->α} {j:Nat} {x:α} (h:j≠i):bD f i x j=f j:=by simp_all[bD,bA0]
theorem gB.aR5 (h:gB l r m V c (n::N)) (F:n.kind=10) (b:i<4) (u:n.core=(i:Int)) {gd':Ln} (E:a=0):(c i).gi=true/\gB l r m V (bD c i {c i with gi:=false,gs:=a,gd:=gd'}) N:=by
 have D:=h.nc n FF;have p:∀k j,fS k j l (n::N)=fS k j l N+if k=10/\j=i then 1 else 0:=fun k j=>by
  grind[dW]
 have g:(c i).gi=true:=by have:=h.t2 i b;grind
 refine⟨g,?_⟩;have I:fS 3 i l N=0/\fS 3 i l r.aH=0:=by have:=h.t2 i b;grind
 have em:∀x,x∈N->x∈n::N:=FB;have w:=h.ex i b;have o:∀j,HH l r (bD c i {c i with gi:=false,gs:=a,gd:=gd'}) N j=HH l r c (n::N) j:=fun j=>by
  unfold HH pd;rw[p 3 j,aaa];grind[cQ,F5,bO]
 have z:∀j,HH l r c (n::N) j≠0->yU ((bD c i {c i with gi:=false,gs:=a,gd:=gd'}) j)=yU (c j):=fun j v=>by
  by_cases e:j=i;subst e;rw[cQ];unfold yU;simp only;split<;>try rfl
  rename_i q;exfalso;apply v;rw[<-o,HH,cQ];simp[F5,q];rw[bO e]
 have B:∀x,x∈N\/x∈r.aH->x.kind=3->x.core.toNat≠i:=fun x f k e=>by
  rcases f with f|f;have:=h.nc x<|em x f;grind[gS];have:=h.jA.aH x f;grind[gS]
 constructor;case jA=>exact h.jA
 case ks=>exact h.ks
 case kg=>exact h.kg
 case kV=>exact h.kV
 case nc=>grind [h.nc]
 case ex=>have:=h.ex;grind [bD]
 case A7=>have:=h.A7;grind [bD]
 case t1=>have:=h.t1;grind [bD]
 case t2=>have:=h.t2;grind [bD]
 case t3=>have:=h.t3;grind [bD]
 case t4=>have:=h.t4;grind [bD]
 case a1=>have:=h.a1;grind [bD]
 case a2=>have:=h.a2;grind [bD]
 case rq=>have:=h.rq;grind [bD]
 case rs=>have:=h.rs;grind [bD]
 case c1=>have:=h.c1;grind [bD]
 case c2=>have:=h.c2;grind [bD]
 case Hv=>have:=h.Hv;grind [bD]
 case gN=>intro x f y;have:=h.gN x (em x f) y;grind [bD]
 case pN=>have:=h.pN;grind [bD]
 case rN=>have:=h.rN;grind [bD]
 case uN=>have:=h.uN;grind [bD]
 case c3=>have:=h.c3;grind
 case c5=>simp only[o];exact fun t A=>h.c5 t FB
 grind[k2,bD]
theorem hM (h:r.kK=true) (a:i<4):r.dS i=false:=by
 grind[bP.kK]
theorem gB.bd (h:gB l r m V c N) {x:aG} (a:x∈N\/x∈r.aH):x.aI=l/\0<=x.core/\x.core<4:=by
 rcases a with a|a;exact h.nc x a;have:=h.jA.aH x a;grind
theorem gB.none (h:gB l r m V c N) {k:Int} (f:fS k i l N=0) {x:aG} (a:x∈N) (b:x.kind=k):x.core≠(i:Int):=fun e=>by
 have:=gS a b e (h.nc x a).1;omega
theorem gB.yJ (h:gB l r m V c N) (i:r.kK=true) {x:aG} (f:x∈N):x.kind≠5/\x.kind≠11:=by
 have a:=h.nc x f;obtain⟨j,e,b,_⟩:=jT a.2;have g:=h.t3 j e;grind[hM,gS]
def gB.no8 (h:gB l r m V c N) (a:i<4) (f:Ce r i=0) {x:aG} (e:x∈N) (b:x.kind=8):x.core≠(i:Int):=
 h.none (by have:=h.t4 i a;omega) e b
theorem gB.Ve (h:gB l r m V c N) (j:i<4) (g:2<=HH l r c N i):r.owner=(i:Int):=by
 by_cases b:fS 5 i l N=0;by_cases f:fS 8 i l N=0;exact((h.c1 i j b f).2).1 g;obtain⟨x,a,k,e,_⟩:=I6<|DY f;have:=h.gN x a k;grind;obtain⟨x,a,k,e,_⟩:=I6<|DY b;have:=h.rN x a k;grind
def Fm (i:Int) (l:Nat):aG:=⟨4,i,l,0,0,0,0,false,0⟩
theorem gB.cG (h:gB l r m V c (n::N)) (T:n.kind=8) (b:i<4) (J:n.core=(i:Int)) {v:Ln} (K:v=if(c i).st≠0 then(c i).d else(n.d0,n.d1)):
  ((c i).qO=true/\(c i).gi=false/\(n.state=1\/n.state=2\/n.state=4))/\gB l r m V (bD c i {c i with st:=n.state,d:=v,qO:=false,aw:=false}) (Fm i l::N):=by
 have hc:=h.nc n FF
 have g:∀k j,fS k j l (n::N)=fS k j l N+if k=8/\j=i then 1 else 0:=fun k j=>by
  grind[dW]
 have w:∀k j,fS k j l (Fm i l::N)=fS k j l N+if k=4/\j=i then 1 else 0:=fun k j=>by
  grind[dW,Fm]
 have P:r.cG=true/\r.aX.core=(i:Int):=by
  have:=h.t4 i b;rw[g,g] at this;simp at this;unfold Ce at this;grind
 have kG:(c i).qO=true:=by have:=h.t1 i b;rw[g 8] at this;cases a:(c i).qO<;>simp_all
 have q:=h.ex i b<|.inr kG
 have R:=h.gN n FF T
 refine⟨FB,?_⟩
 have W:=h.jA.sD<|.inl P.1
 have z:=fun x a=>h.yJ W (x:=x) a
 have hz:fS 1 i l N=0/\fS 2 i l N=0/\fS 1 i l r.aH=0/\fS 2 i l r.aH=0/\fS 8 i l N=0/\fS 4 i l N=0/\fS 9 i l N=0:=by
  have:=h.t1 i b;have p:=h.t4 i b;simp only[g,kG] at this p;unfold Ce at p;simp at this p;split at p<;>omega
 have h3:fS 3 i l N=0/\fS 3 i l r.aH=0:=by have:=h.t2 i b;simp only[g,q] at this;simp at this;omega
 have em:∀x,x∈N->x∈n::N:=FB
 have Y:∀x∈N,x.kind≠8:=fun x a k=>by
  have y:=h.nc x<|em x a;obtain⟨j,f,A,_⟩:=jT y.2;have p:=h.t4 j f;have:=gS a k A y.1;simp only[g] at p;by_cases e:j=i;grind;have:Ce r j=0:=by unfold Ce;rw[aaa]
  omega
 generalize hC:bD c i _=c'
 have ci:c' i={c i with st:=n.state,d:=v,qO:=false,aw:=false}:=HU
 have u:∀j,j≠i->c' j=c j:=fun j e=>HG
 have B:∀j,(c' j).gi=(c j).gi/\(c' j).gs=(c j).gs/\(c' j).gd=(c j).gd:=fun j=>FB
 have F:HH l r c' (Fm i l::N) i=n.state:=by
  unfold HH;rw[ci];unfold F5;rw[bA1 FB]
 have I:HH l r c (n::N) i=(c i).st:=by unfold HH F5;rw[q];simp;omega
 have D:∀j,j≠i->HH l r c' (Fm i l::N) j=HH l r c (n::N) j:=fun j e=>by
  unfold HH pd;rw[g 3 j,w 3 j,aaa,aaa,u j e]
 have O:yU (c' i)=V:=by
  rw[ci];unfold yU;rw[bA1 FB];simp only[K];split;have:=h.c3 i b FB;grind[yU];grind
 constructor
 case jA=>exact h.jA
 case ks=>exact h.ks
 case kg=>exact h.kg
 case kV=>exact h.kV
 case nc=>intro x a;rcases eD.1 a with rfl|a;exact⟨rfl,by grind[Fm]⟩;exact h.nc x<|em x a
 case ex=>have:=h.ex;grind
 case A7=>have:=h.A7;grind
 case t1=>
  intro j f
  have E:=h.t1 j f
  grind
 case t2=>have:=h.t2;grind
 case t3=>have:=h.t3;grind
 case t4=>have:=h.t4;grind
 case a1=>grind
 case a2=>have:=h.a2;grind
 case rq=>
  intro x a t
  have o:x∈N\/x∈r.aH:=a.imp (fun h=>by grind[Fm]) id
  have y:=h.bd<|o.imp (em x) id
  have U:x.core≠(i:Int):=by
   rcases o with a|a<;>rcases t with t|t<;>(grind[gS])
  rw[u _ FA];exact h.rq x FB t
 case rs=>grind
 case c1=>
  intro j f h5 h8
  by_cases e:j=i
  .subst e;have:=h.jA.iZ j f;grind
  .rw[D j e];exact h.c1 j f FB FB
 case c2=>
  grind
 case Hv=>grind[Fm]
 case gN=>grind[Fm]
 case pN=>grind[Fm]
 case rN=>grind[Fm]
 case uN=>
  intro x a k
  have o:x∈N\/x∈r.aH:=a.imp (fun h=>by grind[Fm]) id
  rw[(B _).2.1,(B _).2.2];exact h.uN x FB k
 case c3=>
  intro j f Z
  by_cases e:j=i
  .grind
  .rw[u j e];exact h.c3 j f FB
 case c5=>
  intro E h2
  refine h.c5 (fun j f=>?_) fun x a=>?_
  .grind
  grind
 grind
theorem Wq {c:CL} {p:Nat} (h:F5 c p≠0) (a:c.st=0):c.gi=true/\0<p/\F5 c p=c.gs:=by
 unfold F5 at h ⊢;grind
theorem gB.aQj (h:gB l r m V c (n::N)) (k:n.kind=11) (a:i<4) (b:n.core=(i:Int)):
  r.dS i=true/\r.cG=false/\r.busy=true/\HH l r c (n::N) i≠0/\(n.state=0\/n.state=1)/\((c i).st≠0\/((c i).st=0/\(c i).gi=true)):=by
 have p:0<fS 11 i l (n::N):=gS FF k b (h.nc n FF).1
 have u:r.dS i=true:=by have:=h.t3 i a;grind
 have j:r.cG=false:=by
  cases j:r.cG with
  |false=>rfl
  |true=>have:=hM (h.jA.sD<|.inl j) a;grind
 have g:r.busy=true:=by
  cases g:r.busy with
  |true=>rfl
  |false=>have:=hM (h.jA.sD<|.inr g) a;grind
 have o:HH l r c (n::N) i≠0:=by
  have q:fS 5 i l (n::N)=0:=by have:=h.t3 i a;grind
  have t:fS 8 i l (n::N)=0:=by have:=h.t4 i a;unfold Ce at this;grind
  have:=h.c1 i a q t;have f:=(h.pN n FF k).2.1;rw[b,aM] at f;rcases f with f|f;grind;grind
 refine⟨u,j,g,o,?_,?_⟩
 .have:=(h.pN n FF k).1;grind
 .by_cases e:(c i).st=0
  .exact .inr ⟨e,(Wq o e).1⟩
  grind
theorem xk {to:Int} (b:1<=x/\x<=4) (a:to=0\/to=1):(to=0->kN x to=0)/\(to=1->kN x to=1\/kN x to=3)/\(to=1->2<=x->x=2/\kN x to=1\/(x=3\/x=4)/\kN x to=3)/\(kN x to=3->x=3\/x=4):=by
 grind[kN,Q7]
theorem gB.aQl {a:CL} (h:gB l r m V c (n::N)) (K:n.kind=11) (o:i<4) (B:n.core=(i:Int))
  (E:a.qO=(c i).qO/\a.aw=(c i).aw/\a.gi=(c i).gi/\a.gd=(c i).gd)
  (γ:(c i).st≠0->a.st=kN (c i).st n.state/\(a.st≠0->a.d=(c i).d)/\a.gs=(c i).gs)
  (Y:(c i).st=0->a.st=0/\a.gs=kN (c i).gs n.state)
  (hy:y.kind=5/\y.core=(i:Int)/\y.aI=l/\y.state=kN (HH l r c (n::N) i) n.state/\(y.oU=true↔HH l r c (n::N) i=3\/HH l r c (n::N) i=4)/\(y.oU=true->(y.d0,y.d1)=yU (c i))):
  gB l r m V (bD c i a) (y::N):=by
 have hc:=h.nc n FF
 obtain⟨ha,hg,T,t,F,hw⟩:=h.aQj K o B
 have P:∀k j,fS k j l (n::N)=fS k j l N+if k=11/\j=i then 1 else 0:=fun k j=>by
  grind[dW]
 have z:∀k j,fS k j l (y::N)=fS k j l N+if k=5/\j=i then 1 else 0:=fun k j=>by
  grind[dW]
 have em:∀x,x∈N->x∈n::N:=FB
 have O:=h.A7 i o
 have hex:=h.ex i o
 have U:yU _=V:=h.c3 i o t
 have q:1<=HH l r c (n::N) i/\HH l r c (n::N) i<=4:=by
  unfold HH at t ⊢;by_cases e:(c i).st=0;have:=Wq t e;omega;unfold F5;grind
 have β:=xk q F
 have Z:=FA
 have e5:fS 5 i l N=0:=by have:=h.t3 i o;grind
 have e8:∀x∈N,x.kind≠8:=fun x f k=>by
  obtain⟨j,b,D,_⟩:=jT (h.nc x<|em x f).2;exact h.no8 b (by grind[Ce]) (em x f) k D
 generalize hC:bD c i a=c'
 have ci:c' i=a:=HU
 have I:∀j,j≠i->c' j=c j:=fun j e=>HG
 have u:∀j,(c' j).qO=(c j).qO/\(c' j).aw=(c j).aw/\(c' j).gi=(c j).gi/\(c' j).gd=(c j).gd:=FB
 have A:HH l r c' (y::N) i=kN (HH l r c (n::N) i) n.state:=by
  unfold HH at t ⊢;have R:pd l r (y::N) i=pd l r (n::N) i:=by unfold pd;rw[P,z];simp
  rw[R];by_cases e:(c i).st=0;grind[Wq,F5];simp_all[F5,pd,bA1]
 have J:∀j,j≠i->HH l r c' (y::N) j=HH l r c (n::N) j:=fun j e=>by
  unfold HH pd;grind
 have W:HH l r c' _ i≠0->yU (c' i)=yU (c i):=fun v=>by
  rw[ci];unfold yU;by_cases e:(c i).st=0;grind;by_cases e2:a.st=0;exfalso;apply v;rw[A];have:HH l r c (n::N) i=(c i).st:=by unfold HH F5;rw[bA1 e]
  grind;grind
 have g:∀x,x∈y::N->x=y\/x∈n::N:=FB
 constructor
 case jA=>exact h.jA
 case ks=>exact h.ks
 case kg=>exact h.kg
 case kV=>exact h.kV
 case nc=>intro x f;rcases g x f with rfl|f;exact FA;exact h.nc x f
 case ex=>
  intro j b p
  rw[(u j).2.2.1]
  refine h.ex j b ?_
  grind
 case A7=>
  intro j b
  by_cases e:j=i
  .subst e;by_cases e:(c j).st=0
   .simp_all[Hd]
   simp_all[Hd]
  .rw[I j e];exact h.A7 j b
 case t1=>intro j b;have p:=h.t1 j b;grind
 case t2=>intro j b;have p:=h.t2 j b;grind
 case t3=>intro j b;have p:=h.t3 j b;grind
 case t4=>intro j b;have p:=h.t4 j b;grind
 case a1=>intro j b p;have:=h.a1 j b;grind
 case a2=>intro j b p;have:=h.a2 j b;grind
 case rq=>intro x f k1;rw[(u _).2.1];exact h.rq x (f.imp (fun f=>(g x f).resolve_left fun e=>FB) id) k1
 case rs=>rw[(u _).2.1];exact h.rs
 case c1=>
  intro j b h5 h8
  rw[J j<|FB];exact h.c1 j b FB FB
 case c2=>intro j b w;have:=h.c2 j b;grind
 case Hv=>intro j b w;have:=h.c2 j b;grind
 case gN=>grind
 case pN=>intro x f k;rcases g x f with rfl|f;omega;exact h.pN x f k
 case rN=>
  intro x f k
  rcases eD.1 f with rfl|f
  .have hp:=h.pN n FF K;grind
  .have α:x.core≠(i:Int):=fun e=>by have:=gS f k e (h.nc x<|em x f).1;omega
   have T:=h.nc x<|em x f
   rw[J _ FA]
   exact h.rN x (em x f) k
 case uN=>
  intro x f k
  have p:=h.uN x (f.imp (fun f=>(g x f).resolve_left fun e=>FB) id) k
  rw[(u _).2.2.2]
  refine⟨p.1,fun w=>p.2 ?_⟩
  by_cases e:x.core.toNat=i
  .rw[e,ci] at w;by_cases v:(c i).st=0
   .have:1<=(c i).gs/\(c i).gs<=4:=by
     have:=Wq t v;unfold HH at q;omega
    grind[xk]
   grind
  grind
 case c3=>
  intro j b v
  by_cases e:j=i
  .grind
  .rw[I j e];exact h.c3 j b FB
 case c5=>
  intro p w
  refine h.c5 (fun j b=>?_) fun x f k=>?_
  .grind
  grind
 case k2=>exact h.k2
theorem gB.aP9 {wr:Bool} (h:gB l r m V c N) (z:i<4) (W:(c i).qO=false) (w:(c i).gi=false) (R:if wr then(c i).st≠2/\(c i).st≠4 else(c i).st=0)
  (Y:y.kind=(if wr then 2 else 1)/\y.core=(i:Int)/\y.aI=l):
  gB l r m V (bD c i {c i with qO:=true,aw:=wr}) (y::N):=by
 have v:∀k j,fS k j l (y::N)=fS k j l N+if k=(if wr then 2 else 1)/\j=i then 1 else 0:=fun k j=>by
  grind[dW]
 have D:y.kind=1\/y.kind=2:=FB
 have T:fS 1 i l N=0/\fS 2 i l N=0/\fS 1 i l r.aH=0/\fS 2 i l r.aH=0/\By r i=0/\fS 8 i l N=0/\fS 9 i l N=0:=by
  have:=h.t1 i z;grind
 generalize hC:bD c i _=c'
 have ci:c' i={c i with qO:=true,aw:=wr}:=HU
 have u:∀j,j≠i->c' j=c j:=fun j e=>HG
 have B:∀j,(c' j).st=(c j).st/\(c' j).d=(c j).d/\(c' j).gi=(c j).gi/\(c' j).gs=(c j).gs/\(c' j).gd=(c j).gd:=fun j=>FB
 have q:∀j,HH l r c' (y::N) j=HH l r c N j:=fun j=>by
  grind[fS,HH,pd,F5]
 have O:HH l r c N i=(c i).st:=by unfold HH F5;rw[w];simp;omega
 have E:∀j,yU (c' j)=yU (c j):=fun j=>by unfold yU;grind
 have f:∀x,x∈y::N->x=y\/x∈N:=FB
 constructor
 case jA=>exact h.jA
 case ks=>exact h.ks
 case kg=>exact h.kg
 case kV=>exact h.kV
 case nc=>intro x a;rcases f x a with rfl|a;exact FA;exact h.nc x a
 case ex=>have:=h.ex;grind
 case A7=>have:=h.A7;grind
 case t1=>
  intro j o
  have p:=h.t1 j o
  grind
 case t2=>intro j o;have p:=h.t2 j o;grind
 case t3=>intro j o;have p:=h.t3 j o;grind
 case t4=>intro j o;have p:=h.t4 j o;grind
 case a1=>intro j o p;have:=h.a1 j o;grind
 case a2=>intro j o p I;have:=h.a2 j o;grind
 case rq=>
  intro x a t
  have F:x=y\/(x∈N\/x∈r.aH):=FB
  rcases F with rfl|a
  .grind
  .have P:=h.bd a;have A:x.core≠(i:Int):=by
    rcases a with a|a<;>rcases t with t|t<;>(grind[gS])
   rw[u _ FA];exact h.rq x a t
 case rs=>intro b g U;have:=T.2.2.2.2.1;unfold By at this;rw[u _ fun e=>by have:=h.jA.core;grind];exact h.rs b g U
 case c1=>intro j o J K;rw[q];rw[v] at J K;exact h.c1 j o FA FA
 case c2=>simp only[q];exact h.c2
 case Hv=>simp only[q];intro j o p x a k;rcases f x a with rfl|a;omega;exact h.Hv j o p x a k
 case gN=>
  intro x a k
  rcases f x a with rfl|a
  .omega
  .have P:=h.nc x a;have A:x.core≠(i:Int):=fun e=>by grind[gS]
   simp only[q]
   rw[u _ FA];exact h.gN x a k
 case pN=>intro x a k;rcases f x a with rfl|a;omega;exact h.pN x a k
 case rN=>intro x a k;simp only[q];rcases f x a with rfl|a;omega;exact h.rN x a k
 case uN=>
  intro x a k
  rw[(B _).2.2.2.1,(B _).2.2.2.2];exact h.uN x (a.imp (fun a=>(f x a).resolve_left fun e=>FB) id) k
 case c3=>intro j o;rw[q,E];exact h.c3 j o
 case c5=>simp only[q];exact fun p I=>h.c5 p FB
 grind[k2]
theorem gB.xN {J:Ln} (h:gB l r m V c N) (u:i<4) (U:(c i).qO=false) (B:(c i).st≠0)
  (hy:y.kind=3/\y.core=(i:Int)/\y.aI=l/\(y.d0,y.d1)=(c i).d/\y.oU=qK (c i).st) {t:Bool} (W:t=(c i).aw\/True):
  gB l r m V (bD c i ⟨0,J,false,t,true,(c i).st,(c i).d⟩) (y::N):=by
 have Y:=h.ex i u<|.inl B
 have z:∀k j,fS k j l (y::N)=fS k j l N+if k=3/\j=i then 1 else 0:=fun k j=>by
  grind[dW]
 have hz:fS 1 i l N=0/\fS 2 i l N=0/\fS 1 i l r.aH=0/\fS 2 i l r.aH=0/\By r i=0/\fS 8 i l N=0/\fS 9 i l N=0:=by
  have:=h.t1 i u;grind
 have α:fS 3 i l N=0/\fS 3 i l r.aH=0/\fS 10 i l N=0:=by have:=h.t2 i u;grind
 generalize hC:bD c i _=c'
 have ci:c' i=⟨0,J,false,t,true,(c i).st,(c i).d⟩:=HU
 have w:∀j,j≠i->c' j=c j:=fun j e=>HG
 have I:∀j,(c' j).qO=(c j).qO:=fun j=>FB
 have E:HH l r c N i=(c i).st:=by unfold HH F5;rw[bA1 B]
 have q:∀j,HH l r c' (y::N) j=HH l r c N j:=fun j=>by
  by_cases e:j=i;subst e;rw[E];unfold HH pd;rw[z,ci];simp[F5];unfold HH pd;grind
 have O:∀j,yU (c' j)=yU (c j):=fun j=>by
  by_cases e:j=i;simp_all[yU,bA1];grind
 have f:∀x,x∈y::N->x=y\/x∈N:=FB
 have A:∀x,(x∈N\/x∈r.aH)->(x.kind=1\/x.kind=2\/x.kind=3)->x.core≠(i:Int):=fun x a K e=>by
  have F:=h.bd a;grind[gS]
 constructor
 case jA=>exact h.jA
 case ks=>exact h.ks
 case kg=>exact h.kg
 case kV=>exact h.kV
 case nc=>intro x a;rcases f x a with rfl|a;exact FA;exact h.nc x a
 case ex=>have:=h.ex;grind
 case A7=>have:=h.A7;grind
 case t1=>intro j o;have p:=h.t1 j o;grind
 case t2=>
  intro j o
  have p:=h.t2 j o
  grind
 case t3=>intro j o;have p:=h.t3 j o;grind
 case t4=>intro j o;have p:=h.t4 j o;grind
 case a1=>intro j o;rw[q,I];exact h.a1 j o
 case a2=>intro j o p D;rw[I] at p;rw[q];by_cases e:j=i;(subst e;rw[U] at p;cases p);(rw[w j e] at D;exact h.a2 j o p D)
 case rq=>
  intro x a K
  have v:x∈N\/x∈r.aH:=a.imp (fun a=>(f x a).resolve_left fun e=>FB) id
  have:=A x v FA
  have F:=h.bd v
  rw[w _ FA];exact h.rq x v K
 case rs=>intro b g k0;have:=hz.2.2.2.2.1;unfold By at this;rw[w _ fun e=>by have:=h.jA.core;grind];exact h.rs b g k0
 case c1=>intro j o R T;rw[q];rw[z] at R T;exact h.c1 j o FA FA
 case c2=>simp only[q];exact h.c2
 case Hv=>simp only[q];intro j o p x a k;rcases f x a with rfl|a;omega;exact h.Hv j o p x a k
 case gN=>
  intro x a k
  rcases f x a with rfl|a
  .omega
  .have F:=h.nc x a;have Z:x.core≠(i:Int):=fun e=>by grind[gS]
   simp only[q]
   rw[w _ FA];exact h.gN x a k
 case pN=>intro x a k;rcases f x a with rfl|a;omega;exact h.pN x a k
 case rN=>intro x a k;simp only[q];rcases f x a with rfl|a;omega;exact h.rN x a k
 case uN=>
  intro x a k
  have P:x=y\/(x∈N\/x∈r.aH):=FB
  rcases P with rfl|a
  .grind[Int.toNat_natCast,qK]
  .have:=A x a FA;have F:=h.bd a;rw[w _ FA];exact h.uN x a k
 case c3=>intro j o;rw[q,O];exact h.c3 j o
 case c5=>simp only[q];exact fun p D=>h.c5 p FB
 grind[k2]
theorem gB.aXb {D:Ln} (h:gB l r m V c N) (b:i<4) (q:(c i).st=2\/(c i).st=4):
  gB l r m D (bD c i {c i with st:=4,d:=D}) N:=by
 have p:HH l r c N i=(c i).st:=by unfold HH F5;rw[aac]
 have o:HH l r c N i=2\/HH l r c N i=4:=by rw[p];exact q
 have O:=h.c2 i b o
 have z:=h.Hv i b o
 have kG:(c i).qO=false:=by cases e:(c i).qO with|false=>rfl|true=>have:=h.a1 i b e;omega
 have F:∀x∈N,x.kind≠8:=fun x a k=>by
  have u:=h.nc x a;obtain⟨j,f,y,A⟩:=jT u.2;have K:=h.gN x a k;by_cases e:x.state=1;grind;by_cases e2:j=i;have:=h.t1 j f;grind[gS];grind
 have E:∀x∈N,x.kind=5->r.aX.kind≠1:=fun x a k e=>by
  have u:=h.nc x a;have P:=((h.rN x a k).2.1 e);grind
 generalize hC:bD c i _=c'
 have ci:c' i={c i with st:=4,d:=D}:=HU
 have B:∀j,j≠i->c' j=c j:=fun j e=>HG
 have g:∀j,(c' j).qO=(c j).qO/\(c' j).aw=(c j).aw/\(c' j).gi=(c j).gi/\(c' j).gs=(c j).gs/\(c' j).gd=(c j).gd:=FB
 have t:HH l r c' N i=4:=by unfold HH;rw[ci];simp[F5]
 have I:∀j,j≠i->HH l r c' N j=HH l r c N j:=fun j e=>by grind[HH]
 constructor
 case jA=>exact h.jA
 case ks=>exact h.ks
 case kg=>exact h.kg
 case kV=>exact h.kV
 case nc=>exact h.nc
 case ex=>have:=h.ex;grind
 case A7=>have:=h.A7;grind
 case t1=>intro j f;rw[(g j).1];exact h.t1 j f
 case t2=>intro j f;rw[(g j).2.2.1];exact h.t2 j f
 case t3=>exact h.t3
 case t4=>exact h.t4
 case a1=>grind
 case a2=>grind
 case rq=>intro x a k;rw[(g _).2.1];exact h.rq x a k
 case rs=>rw[(g _).2.1];exact h.rs
 case c1=>intro j f v w;have:=h.c1 j f v w;grind
 case c2=>
  grind
 case Hv=>grind
 case gN=>grind
 case pN=>exact h.pN
 case rN=>
  intro x a k
  have J:=h.rN x a k
  grind
 case uN=>intro x a k;rw[(g _).2.2.2.1,(g _).2.2.2.2];exact h.uN x a k
 case c3=>
  grind[yU]
 case c5=>grind
 grind[k2]
theorem Ej {r:bP}:∀(f i:Nat),(∀c,c∈r.jU x f i↔(i<=c/\c<i+f)/\r.lY x c=true)/\(r.jU x f i).Nodup/\(r.Ax x f i= -1↔∀c,i<=c->c<i+f->r.lY x c=false):=by
 intro f;induction f with
 |zero=>grind[bP.jU,bP.Ax]
 |succ f a=>
  intro i;unfold bP.jU bP.Ax;grind
theorem tT {r:bP} {c:Nat}:c∈r.iV x↔c<4/\r.lY x c=true:=by
 grind[Ej,bP.iV]
theorem Eg {r:bP}:(r.iV x).Nodup:=(Ej 4 0).2.1
theorem Ii {r:bP}:r.first x= -1↔∀c:Nat,c<4->(c:Int)≠x->r.sh c=false/\(c:Int)≠r.owner:=by
 simp_all[Ej,bP.first,bP.lY]
theorem gB.im (h:gB l r m V c N) (a:r.cG=false):r.kV=false:=by
 cases e:r.kV with
 |false=>rfl
 |true=>have:=h.kV e;grind
def bP.say (r:bP) (b:Bool) (d:Ln):bP:={r with kV:=b,d0:=d.1,d1:=d.2}
theorem gB.say {b:Bool} (h:gB l r m V c N) (a:r.cG=true):gB l (bP.say r b d) m V c N:=by
 constructor;exact⟨h.jA.core,h.jA.owner,h.jA.aH,h.jA.iZ,h.jA.fV,h.jA.sD,h.jA.gb⟩;exact h.ks;exact h.kg;intro _;exact a;exact h.nc;exact h.ex;exact h.A7;exact h.t1;exact h.t2;exact h.t3;exact h.t4;exact h.a1;exact h.a2;exact h.rq;exact h.rs;exact h.c1;exact h.c2;exact h.Hv;exact h.gN;exact h.pN;exact h.rN;exact h.uN;exact h.c3;exact h.c5;exact h.k2
theorem gB.aX1 (h:gB l r m V c N) (hb:r.busy=true) (o:r.cG=false) (f:r.kK=true) (p:r.aX.kind=0):gB l r.kW m V c N:=by
 have a:=fun x j=>h.yJ f (x:=x) j;have g:∀i,By r i=0/\By r.kW i=0:=fun i=>by grind[By,bP.kW]
 have k:∀i,Ce r i=0/\Ce r.kW i=0:=fun i=>by grind[Ce,bP.kW]
 constructor;exact Iz h.jA f;intro e;cases e;intro e;cases e;intro e;cases e;exact h.nc;exact h.ex;exact h.A7;intro i b;have:=h.t1 i b;rw[(g i).1] at this;exact this;exact h.t2;exact h.t3;intro i b;have:=h.t4 i b;grind;exact h.a1;exact h.a2;exact h.rq;intro e;cases e;exact h.c1;exact h.c2;exact h.Hv;exact h.gN;grind;grind;exact h.uN;exact h.c3;exact h.c5;intro e;cases e
theorem gB.dZ (h:gB l r m V c N) (hb:r.busy=true) (t:r.cG=false) (O:r.kK=true) (hk:r.aX.kind=1\/r.aX.kind=2)
  (hd:HH l r c N r.aX.core.toNat=0->d=V) (p:r.aX.kind=1->∀j,j<4->HH l r c N j≠2/\HH l r c N j≠4):
  gB l (r.dZ l d).1 m V c ((r.dZ l d).2++N)/\(r.dZ l d).1.cG=true:=by
 have I:=fun x g=>h.yJ O (x:=x) g
 obtain⟨i,A,q,w⟩:∃i:Nat,i<4/\r.aX.core=(i:Int)/\r.aX.core.toNat=i:=⟨_,by have:=h.jA.core;omega,by have:=h.jA.core;omega,rfl⟩
 have a:=Dx (aI:=l) (d:=d) (Ja.mk h.jA.core h.jA.owner h.jA.aH h.jA.iZ (h.jA.fV hb t) hb t) FA O
 have z:By r i=1:=by unfold By;rw[bA1 FB]
 have kG:(c i).qO=true:=by have:=h.t1 i A;cases g:(c i).qO<;>simp_all
 have hz:fS 8 i l N=0/\fS 9 i l N=0/\fS 4 i l N=0:=by
  have:=h.t1 i A;have E:=h.t4 i A;unfold Ce at E;rw[t] at E;rw[z,kG] at this;simp at this E;omega
 have g0:∀j,Ce r j=0:=fun j=>by grind[Ce]
 have P:=h.rs hb t FA
 rw[w] at P
 have e8:∀x∈N,x.kind≠8:=fun x g k=>by
  obtain⟨j,b,J,_⟩:=jT (h.nc x g).2;exact h.no8 b (g0 j) g k J
 have δ:∀j,j<4->(HH l r c N j=1↔r.sh j=true)/\(2<=HH l r c N j↔r.owner=(j:Int)):=fun j b=>h.c1 j b (by have:=h.t3 j b;grind[hM]) (by have:=h.t4 j b;grind)
 have γ:∀j,0<=HH l r c N j->HH l r c N j≠0->HH l r c N j=1\/2<=HH l r c N j:=FA
 have β:∀j,j<4->0<=HH l r c N j:=fun j b=>by have:=h.A7 j b;unfold HH F5;grind
 rw[w] at hd
 have main:∀(f:bP) (st:Int),f={r with owner:=f.owner,sh:=f.sh,cG:=true}->vX l f->(st=1\/st=2\/st=4)->(st=4↔(c i).aw=true)->
   (st=1->f.sh i=true/\HH l r c N i=0/\∀j,j<4->HH l r c N j≠2/\HH l r c N j≠4)->
   (st≠1->f.owner=(i:Int)/\∀j:Nat,j<4->f.sh j=false/\((j:Int)≠(i:Int)->HH l r c N j=0))->(st=2->HH l r c N i=0)->
   (∀j:Nat,j<4->j≠i->(f.sh j=r.sh j)/\(f.owner=(j:Int)↔r.owner=(j:Int)))->
   gB l f m V c (r.oY l st d::N):=by
  intro f st er a W F R T U α
  have v:(r.oY l st d).kind=8/\(r.oY l st d).core=(i:Int)/\(r.oY l st d).aI=l:=⟨rfl,q,rfl⟩
  have D:∀k j,fS k j l (r.oY l st d::N)=fS k j l N+if k=8/\j=i then 1 else 0:=fun k j=>by
   rw[dW];grind
  have B:f.aH=r.aH/\f.busy=true/\f.cG=true/\f.dS=r.dS/\f.kV=r.kV/\f.aX=r.aX:=FB
  have u:∀j,HH l f c (r.oY l st d::N) j=HH l r c N j:=fun j=>by unfold HH pd;rw[D,aaa,B.1];rfl
  have es:∀j,By f j=0:=fun j=>by grind[By]
  have o:∀x,x∈r.oY l st d::N->x=r.oY l st d\/x∈N:=FB
  constructor
  case jA=>exact a
  case ks=>grind
  case kg=>grind
  case kV=>grind
  case nc=>intro x g;rcases o x g with rfl|g;exact⟨v.2.2,FB⟩;exact h.nc x g
  case ex=>exact h.ex
  case A7=>exact h.A7
  case t1=>
   intro j b
   have p:=h.t1 j b
   by_cases e:j=i
   .grind
   .have:By r j=0:=by unfold By;rw[aaa]
    grind
  case t2=>intro j b;have p:=h.t2 j b;grind
  case t3=>intro j b;have p:=h.t3 j b;grind
  case t4=>
   intro j b
   have p:=h.t4 j b
   have ζ:Ce f j=if j=i then 1 else 0:=by
    unfold Ce;rw[B.2.2.1,B.2.2.2.2.2];by_cases e:j=i;grind;grind
   grind
  case a1=>simp only[u];exact h.a1
  case a2=>simp only[u];exact h.a2
  case rq=>intro x g Y;exact h.rq x FB Y
  case rs=>grind
  case c1=>
   grind
  case c2=>grind
  case Hv=>grind
  case gN=>
   intro x g k
   rcases o x g with rfl|g
   .simp only[u];rw[v.2.1,aM];exact⟨W,F,R,T,U,hd⟩
   grind
  case pN=>grind
  case rN=>grind
  case uN=>intro x g k;exact h.uN x FB k
  case c3=>simp only[u];exact h.c3
  case c5=>simp only[u];exact fun p h2=>h.c5 p FB
  case k2=>grind
 unfold bP.dZ at a ⊢
 by_cases k2:r.aX.kind=2
 .rw[bA1 k2] at a ⊢;refine⟨main _ 4 rfl a FA FB FA ?_ FA ?_,rfl⟩
  .intro _;refine⟨q,fun j b=>⟨rfl,fun e=>gg fun e0=>?_⟩⟩;have y:=h.k2 hb t FA j b fun _=>FB;grind[hM]
  .intro j b e;have y:=h.k2 hb t FA j b fun _=>FB;rw[hM O b] at y;grind
 .rw[bA0 k2] at a ⊢;have Y:r.aX.kind=1:=FA
  have Z:=h.a2 i A kG (by cases e:(c i).aw with|false=>rfl|true=>grind)
  by_cases K:r.first r.aX.core= -1
  .rw[bA1 K] at a ⊢;have ε:=Ii.1 K;refine⟨main _ 2 rfl a FA FB FA ?_ (fun _=>Z) ?_,rfl⟩
   .intro _;refine⟨q,fun j b=>⟨?_,FB⟩⟩;grind[mD]
   .intro j b e;constructor
    .unfold mD;grind
    grind
  .rw[bA0 K] at a ⊢;refine⟨main _ 1 rfl a FA FB ?_ FA FA ?_,rfl⟩
   .intro _;refine⟨?_,Z,p Y⟩;unfold mD;grind
   .intro j b e;constructor
    .unfold mD;grind
    grind
theorem gB.xq (h:gB l r m V c (n::N)) (o:n.kind=5) (a:i<4) (g:n.core=(i:Int)):
  r.dS i=true/\r.cG=false/\r.busy=true/\fS 5 i l N=0/\fS 11 i l N=0:=by
 have j:=h.nc n FF
 have f:r.dS i=true:=by
  have:=h.t3 i a;rw[dW (k:=5),aac] at this;grind
 have e:r.cG=false:=by
  cases e:r.cG with
  |false=>rfl
  |true=>have:=hM (h.jA.sD<|.inl e) a;grind
 have b:r.busy=true:=by
  cases b:r.busy with
  |true=>rfl
  |false=>have:=hM (h.jA.sD<|.inr b) a;grind
 have:=h.t3 i a
 rw[dW (k:=5),aac,dW,aaa,f] at this
 grind
theorem gB.dE {r':bP} {A:Ln} (h:gB l r m V c (n::N)) (z:n.kind=5) (J:i<4) (v:n.core=(i:Int))
  (R:r'={r with owner:=r'.owner,sh:=r'.sh,dS:=mD r.dS n.core false}) (t:Ja l r')
  (f:∀j:Nat,j<4->j≠i->(r'.sh j=r.sh j)/\(r'.owner=(j:Int)↔r.owner=(j:Int)))
  (I:(HH l r c (n::N) i=1↔r'.sh i=true)/\(2<=HH l r c (n::N) i↔r'.owner=(i:Int)))
  (K:(∀j,j<4->HH l r c (n::N) j≠3/\HH l r c (n::N) j≠4)->(∀x∈N,x.kind=5->x.oU=false)->A=V):gB l r' A V c N:=by
 obtain⟨W,y,q,F,D⟩:=h.xq z J v
 have Y:=h.nc n FF
 have B:∀k j,fS k j l (n::N)=fS k j l N+if k=5/\j=i then 1 else 0:=fun k j=>by
  rw[dW];grind
 have em:∀x,x∈N->x∈n::N:=FB
 have o:r'.aH=r.aH/\r'.busy=true/\r'.cG=false/\r'.dS=mD r.dS n.core false/\r'.kV=r.kV/\r'.aX=r.aX:=FB
 have g:∀j,HH l r' c N j=HH l r c (n::N) j:=fun j=>by unfold HH pd;rw[B,aaa,o.1];rfl
 have u:∀j,r'.dS j=if j=i then false else r.dS j:=fun j=>by rw[o.2.2.2.1];unfold mD;grind
 have O:∀x∈N,x.kind=5\/x.kind=11->x.core≠(i:Int):=fun x a k e=>by
  rcases k with k|k<;>(have:=gS a k e (h.nc x<|em x a).1;omega)
 have g0:∀j,Ce r j=0/\Ce r' j=0:=fun j=>by unfold Ce;grind
 have P:∀x∈N,x.kind≠8:=fun x a k=>by
  obtain⟨j,b,w,_⟩:=jT (h.nc x<|em x a).2;exact h.no8 b (g0 j).1 (em x a) k w
 have T:∀j,By r' j=By r j:=fun j=>by unfold By;grind
 constructor
 case jA=>exact t.aEe
 case ks=>rw[o.2.2.2.2.2];exact fun _=>h.ks q
 case kg=>grind
 case kV=>rw[o.2.2.2.2.1,h.im y];grind
 case nc=>exact fun x a=>h.nc x<|em x a
 case ex=>exact h.ex
 case A7=>exact h.A7
 case t1=>intro j b;have p:=h.t1 j b;grind
 case t2=>intro j b;have p:=h.t2 j b;grind
 case t3=>
  intro j b
  have p:=h.t3 j b
  grind
 case t4=>intro j b;have p:=h.t4 j b;grind
 case a1=>simp only[g];exact h.a1
 case a2=>simp only[g];exact h.a2
 case rq=>exact fun x a=>h.rq x FB
 case rs=>rw[o.2.2.2.2.2];exact fun _ _=>h.rs q y
 case c1=>
  intro j b F U
  rw[g]
  by_cases e:j=i
  .grind
  .rw[(f j b e).1,(f j b e).2];exact h.c1 j b FB FB
 case c2=>simp only[g];exact h.c2
 case Hv=>simp only[g];exact fun j b E x a=>h.Hv j b E x<|em x a
 case gN=>grind
 case pN=>
  intro x a k
  have q:=h.nc x<|em x a
  have p:=h.pN x (em x a) k
  grind
 case rN=>
  intro x a k
  have q:=h.nc x<|em x a
  have p:=h.rN x (em x a) k
  grind
 case uN=>exact fun x a=>h.uN x FB
 case c3=>simp only[g];exact h.c3
 case c5=>simp only[g];exact K
 case k2=>
  rw[o.2.2.2.2.2]
  intro _ _ k j b a F5
  rw[u]
  by_cases e:j=i
  .have Z:=(h.rN n FF z).1 k;grind
  .rw[bA0 e];refine h.k2 q y k j b a ?_;grind
theorem gB.nI (h:gB l r m V c (n::N)) (J:n.kind=5):
  r.dS n.core.toNat=true/\gB l (iN.nI (r,m) l n).1.1 (iN.nI (r,m) l n).1.2 V c ((iN.nI (r,m) l n).2++N):=by
 have hc:=h.nc n FF
 obtain⟨i,I,u,T⟩:=jT hc.2
 obtain⟨ha,E,D,h5,β⟩:=h.xq J I u
 refine⟨FB,?_⟩
 have K:=J7 h.jA hc.2 FB
 have ht:=h.im E
 have v:=h.rN n FF J
 rw[T] at v
 have γ:∀j,j<4->0<=HH l r c (n::N) j:=fun j a=>by have:=h.A7 j a;grind[HH,F5]
 have ι:∀(q:bP) (m1:Ln),gB l q m1 V c N->q.busy=true->q.cG=false->q.kK=true->q.aX=r.aX->(∀j,HH l q c N j=HH l r c (n::N) j)->
   ∀j,j<4->(HH l r c (n::N) j=1↔q.sh j=true)/\(2<=HH l r c (n::N) j↔q.owner=(j:Int)):=fun q m1 O b1 g1 q1 _ P j a=>by
  rw[<-P]
  exact O.c1 j a (by have:=O.t3 j a;grind[hM]) (by have:=O.t4 j a;grind[Ce])
 unfold iN.nI
 simp only
 by_cases y:r.aX.kind=1
 .have hr:=v.2.1 y;have W:∀q:bP,q.dS=mD r.dS n.core false->q.kK=true:=fun q e=>by
   have hz:∀j:Nat,j<4->q.dS j=false:=fun j a=>by
    rw[e];unfold mD;by_cases ej:(j:Int)=n.core;grind;rw[bA0 ej];cases w:r.dS j with
    |false=>rfl
    |true=>
     have F:=h.t3 j a;rw[w] at F;simp at F;by_cases hp:fS 11 j l (n::N)=0;obtain⟨x,w,k,ex,_⟩:=I6 (k:=5) (i:=j) (l:=l) (N:=n::N) FA;have:=((h.rN x w k).2.1 y).1;omega;obtain⟨x,w,k,ex,_⟩:=I6<|DY hp;have:=(h.pN x w k).2.2 y;omega
   grind[bP.kK]
  have U:r.yT m n=m:=by unfold bP.yT;rw[aaa]
  rw[U]
  rcases hr.2.2 with O|F
  .have b:r.dE n=(r.iG n).Kf n:=by unfold bP.dE;rw[bA0 fun e=>e y,aac,bA0 FB]
   have t:HH l r c (n::N) i=1:=FB
   have f:gB l (r.dE n) m V c N:=by
    refine h.dE J I u HA K (fun j a e=>?_) ?_ fun z R=>?_;rw[b];constructor;show mD r.sh n.core _ j=r.sh j;unfold mD;grind;show(-1:Int)=(j:Int)↔r.owner=(j:Int);grind;rw[b,t];constructor;show _↔mD r.sh n.core _ i=true;simp_all[mD,bA1,U9];show _↔(-1:Int)=(i:Int);grind;exact h.c5 z FB
   have g:=W (r.dE n) HA
   have o:(r.dE n).cG=false:=by rw[b];exact E
   have B:(r.dE n).aX=r.aX:=HA
   have θ:(r.dE n).owner= -1:=HA
   have η:∀j,j<4->¬2<=HH l (r.dE n) c N j:=fun j a e=>by have:=f.Ve a e;grind
   unfold bP.rest
   rw[bA1 g,B,aaa]
   have p:(r.dE n).yU m=m:=by unfold bP.yU;rw[bA0];rw[f.im o];simp
   rw[p]
   exact(f.dZ (by rw[b];exact D) o g FB (fun _=>f.c5 FB fun x w k=>absurd k (f.yJ g w).1) fun _ j a=>FB).1
  .have b:r.dE n=(r.iG n).qL n:=by unfold bP.dE;rw[bA0 fun e=>e y,aaa,bA1 F.2]
   have t:HH l r c (n::N) i=3:=FB
   have Y:r.owner=(i:Int):=FA
   have f:gB l (r.iG n) m V c N:=by
    refine h.dE J I u rfl (⟨h.jA.core,h.jA.owner,h.jA.aH,h.jA.iZ,h.jA.fV D E,D,E⟩) (fun j a e=>⟨rfl,Iff.rfl⟩) ?_ FB;rw[t];constructor;constructor;grind;intro e;have:=h.jA.iZ i I e;omega;exact⟨fun _=>Y,FA⟩
   have δ:=f.dZ D E (W (r.iG n) rfl) (.inl y) (fun _=>v.2.2 F.2) (fun _ j a=>by
    by_cases e:j=i;unfold HH pd at t ⊢;grind[F5,fS];have:¬2<=HH l (r.iG n) c N j:=fun e2=>by have:=f.Ve a e2;have:r.owner=(j:Int):=this;omega
    omega)
   unfold bP.rest
   rw[bA1<|W (r.dE n) HA,b,bA0<|by show ¬r.aX.kind=0;omega]
   have p:((r.iG n).qL n).yU m=(n.d0,n.d1):=HN
   have ε:((r.iG n).qL n).dZ l (n.d0,n.d1)=(bP.say ((r.iG n).dZ l (n.d0,n.d1)).1 true (n.d0,n.d1),((r.iG n).dZ l (n.d0,n.d1)).2):=by
    unfold bP.dZ;have P:((r.iG n).qL n).aX.kind=(r.iG n).aX.kind:=rfl;have e2:((r.iG n).qL n).first ((r.iG n).qL n).aX.core=(r.iG n).first (r.iG n).aX.core:=rfl
    rw[P,e2];split;rfl;split<;>rfl
   grind[say]
 .have b:r.dE n=(r.iG n).iB n.core:=by unfold bP.dE;rw[bA1 y]
  have f:gB l (r.dE n) (r.yT m n) V c N:=by
   refine h.dE J I u HA K (fun j a e=>?_) ?_ fun z R=>?_;rw[b];constructor;show mD r.sh n.core false j=r.sh j;unfold mD;grind;show(if r.owner=n.core then(-1:Int) else r.owner)=(j:Int)↔r.owner=(j:Int);grind;rw[b,v.1 y];constructor;show _↔mD r.sh n.core false i=true;unfold mD;grind;show _↔(if r.owner=n.core then(-1:Int) else r.owner)=(i:Int);grind;unfold bP.yT;by_cases hd:n.oU=true;grind;rw[bA0 FB];exact h.c5 z FB
  have A:(r.dE n).busy=true:=by rw[b];exact D
  have o:(r.dE n).cG=false:=by rw[b];exact E
  have B:(r.dE n).aX=r.aX:=HA
  have κ:=h.ks D
  unfold bP.rest
  by_cases g:(r.dE n).kK=true
  .rw[bA1 g];split
   .rename_i Z;exact f.aX1 A o g Z
   .rename_i Z;rw[B] at Z;have p:(r.dE n).yU (r.yT m n)=r.yT m n:=by unfold bP.yU;rw[bA0];rw[f.im o];simp
    rw[p]
    have α:=fun j a=>f.c1 j a (by have:=f.t3 j a;grind[hM]) (by have:=f.t4 j a;grind[Ce])
    refine(f.dZ A o g FB (fun h0=>f.c5 (fun j a=>?_) fun x w k=>absurd k (f.yJ g w).1) fun e=>FB).1
    by_cases e:(j:Int)=(r.dE n).aX.core
    .grind
    .have ζ:=f.k2 A o FB j a fun _=>e;grind[hM]
  grind
theorem s7 {k:Int} (h:S.Nodup):fS k i l (eR l st S)=if k=11/\i∈S then 1 else 0:=by
 induction S with
 |nil=>simp[eR,fS]
 |cons a S b=>
  grind[List.nodup_cons,fS,eR,dW]
theorem gB.Qk (h:gB l r m V c N) (hb:r.busy=false):r.kK=true/\r.cG=false/\r.kV=false:=by
 have a:r.cG=false:=by cases e:r.cG with|false=>rfl|true=>have:=h.jA.gb e;grind
 exact⟨h.jA.sD<|.inr hb,a,h.im a⟩
theorem gB.Sm {r':bP} (h:gB l r m V c N) (hb:r.busy=false) (hw:r.aH=n::w) (hk:n.kind=0\/n.kind=1\/n.kind=2)
  (I:S.Nodup) (J:∀j∈S,j<4/\(r.sh j=true\/r.owner=(j:Int)))
  (D:n.kind≠1->∀j:Nat,j<4->(n.kind=2->(j:Int)≠n.core)->r.sh j=true\/r.owner=(j:Int)->j∈S)
  (e:n.kind=1->∀j∈S,r.owner=(j:Int)) (R:st=if n.kind=1 then 1 else 0)
  (g:r'.owner=r.owner/\r'.sh=r.sh/\r'.aH=w/\r'.busy=true/\r'.aX=n/\r'.cG=false/\r'.kV=false) (e2:∀j,j<4->r'.dS j=decide (j∈S)):
  gB l r' m V c (eR l st S++N):=by
 obtain⟨F,Z,ht⟩:=h.Qk hb
 have z:=h.jA.aH n FB
 obtain⟨i,E,O,v⟩:=jT z.2.1
 have t:=fun x a=>h.yJ F (x:=x) a
 have q:∀k j,fS k j l r.aH=fS k j l w+if n.kind=k/\j=i then 1 else 0:=fun k j=>by
  grind[dW]
 have p:∀k j,fS k j l (eR l st S++N)=(if k=11/\j∈S then 1 else 0)+fS k j l N:=fun k j=>by rw[Kq,s7 I]
 have o:∀j,HH l r' c (eR l st S++N) j=HH l r c N j:=fun j=>by
  unfold HH pd;rw[q,p,g.2.2.1,aaa,aaa];simp
 have P:∀x∈eR l st S,x.kind=11/\x.aI=l/\x.state=st/\∃j∈S,x.core=(j:Int):=fun x a=>by
  grind[eR]
 have g0:∀j,Ce r j=0/\Ce r' j=0:=fun j=>by unfold Ce;grind
 have U:∀x∈N,x.kind≠8:=fun x a k=>by
  obtain⟨j,b,u,_⟩:=jT (h.nc x a).2;exact h.no8 b (g0 j).1 a k u
 have s0:∀j,By r j=0:=fun j=>by grind[By]
 have s1:∀j,By r' j=if n.kind≠0/\j=i then 1 else 0:=fun j=>by
  unfold By;grind
 have f:∀x,x∈eR l st S++N->x∈eR l st S\/x∈N:=FB
 have y:∀x,x∈w->x∈r.aH:=FB
 have K:∀j,j<4->(HH l r c N j=1↔r.sh j=true)/\(2<=HH l r c N j↔r.owner=(j:Int)):=fun j b=>h.c1 j b (by have:=h.t3 j b;grind[hM]) (by have:=h.t4 j b;grind)
 have A:=h.rq n<|.inr FB
 rw[v] at A
 have B:n.kind=0\/n.kind=2\/r.owner≠n.core:=by
  by_cases T:n.kind=1;right;right;intro W;have kG:(c i).qO=true:=by
   have:=h.t1 i E;rw[q 1,bA1 ⟨T,rfl⟩] at this;cases a:(c i).qO<;>simp_all
  have:=h.a2 i E kG FB;grind;omega
 constructor
 case jA=>
  refine Ja.aEe ⟨?_,?_,?_,?_,?_,g.2.2.2.1,g.2.2.2.2.2.1⟩
  .grind
  .rw[g.1];exact h.jA.owner
  .rw[g.2.2.1];exact fun x a=>h.jA.aH x<|y x a
  .grind
  grind
 case ks=>grind
 case kg=>grind
 case kV=>grind
 case nc=>
  intro x a;rcases f x a with a|a
  .grind
  .exact h.nc x a
 case ex=>exact h.ex
 case A7=>exact h.A7
 case t1=>
  intro j b
  have e:=h.t1 j b
  rw[s1,g.2.2.1]
  grind
 case t2=>intro j b;have e:=h.t2 j b;rw[q,aaa] at e;grind
 case t3=>
  intro j b
  have e:=h.t3 j b
  rw[hM F b] at e
  simp only[p,e]
  grind
 case t4=>intro j b;have e:=h.t4 j b;grind
 case a1=>simp only[o];exact h.a1
 case a2=>simp only[o];exact h.a2
 case rq=>
  intro x a k
  refine h.rq x ?_ k
  grind
 case rs=>grind
 case c1=>grind
 case c2=>simp only[o];exact h.c2
 case Hv=>grind
 case gN=>grind
 case pN=>
  intro x a k
  rcases f x a with a|a
  .grind[Int.toNat_natCast]
  grind
 case rN=>grind
 case uN=>
  intro x a k
  refine h.uN x ?_ k
  grind
 case c3=>simp only[o];exact h.c3
 case c5=>simp only[o];exact fun e Y=>h.c5 e FB
 grind
theorem gB.aUq (h:gB l r m V c N) (E:r.aH=n::w) (J:n.kind=1\/n.kind=2):gB l (r.next w) m V c (mR 9 n.core l::N):=by
 have t:=h.jA.aH n FB;obtain⟨i,I,A,B⟩:=jT t.2.1;have z:∀k j,fS k j l r.aH=fS k j l w+if n.kind=k/\j=i then 1 else 0:=fun k j=>by
  grind[dW]
 have o:∀k j,fS k j l (mR 9 n.core l::N)=fS k j l N+if k=9/\j=i then 1 else 0:=fun k j=>by
  grind[dW,mR]
 have g:∀j,HH l (r.next w) c (mR 9 n.core l::N) j=HH l r c N j:=fun j=>by
  unfold HH pd;rw[z,o,aaa,aaa];rfl
 have b:∀x,x∈mR 9 n.core l::N->x=mR 9 n.core l\/x∈N:=FB;have q:∀x,x∈w->x∈r.aH:=FB;have D:∀x,x=mR 9 n.core l->x.kind=9:=fun x e=>GF
 constructor;exact Iv h.jA E;exact h.ks;exact h.kg;exact h.kV;intro x a;rcases b x a with rfl|a;exact⟨rfl,t.2.1⟩;exact h.nc x a;exact h.ex;exact h.A7;intro j f;have p:=h.t1 j f;have F:By (r.next w) j=By r j:=rfl;rw[show(r.next w).aH=w from rfl];grind;intro j f;have p:=h.t2 j f;rw[show(r.next w).aH=w from rfl];grind;intro j f;have p:_=((r.next w).dS j).toNat:=h.t3 j f;grind;intro j f;have p:_=Ce (r.next w) j:=h.t4 j f;grind;simp only[g];exact h.a1;simp only[g];exact h.a2;intro x a k;exact h.rq x (a.elim FB fun a=> .inr (q x a)) k;exact h.rs;intro j f v y;rw[g];simp only[o] at v y;exact h.c1 j f v y;simp only[g];exact h.c2;simp only[g];intro j f u x a k;rcases b x a with rfl|a;cases k;exact h.Hv j f u x a k;simp only[g];intro x a k;rcases b x a with rfl|a;cases k;exact h.gN x a k;intro x a k;rcases b x a with rfl|a;cases k;exact h.pN x a k;simp only[g];intro x a k;rcases b x a with rfl|a;cases k;exact h.rN x a k;intro x a k;exact h.uN x (a.elim FB fun a=> .inr (q x a)) k;simp only[g];exact h.c3;simp only[g];exact fun p u=>h.c5 p FB;exact h.k2
theorem gB.aVy (h:gB l r m V c N) (o:r.aH=n::w) (q:n.kind=0):gB l (r.next w) m V c N:=by
 have f:∀k j,k≠0->fS k j l r.aH=fS k j l w:=fun k j p=>by
  rw[o,dW,aaa];rfl
 have a:∀j,HH l (r.next w) c N j=HH l r c N j:=fun j=>by unfold HH pd;rw[f 3 j FA];rfl
 have e:∀x,x∈w->x∈r.aH:=FB;constructor;exact Iv h.jA o;exact h.ks;exact h.kg;exact h.kV;exact h.nc;exact h.ex;exact h.A7;intro j g;have b:=h.t1 j g;rw[f 1 j FA,f 2 j FA] at b;exact b;intro j g;have b:=h.t2 j g;rw[f 3 j FA] at b;exact b;exact h.t3;exact h.t4;simp only[a];exact h.a1;simp only[a];exact h.a2;exact fun x i=>h.rq x<|i.imp id<|e x;exact h.rs;simp only[a];exact h.c1;simp only[a];exact h.c2;simp only[a];exact h.Hv;simp only[a];exact h.gN;exact h.pN;simp only[a];exact h.rN;exact fun x i=>h.uN x<|i.imp id<|e x;simp only[a];exact h.c3;simp only[a];exact h.c5;exact h.k2
theorem gB.aLa (h:gB l r m V c N):gB l (r.lF<|nU l) m V c N:=by
 have f:∀k j,k≠0->fS k j l (r.lF _).aH=fS k j l r.aH:=fun k j g=>by
  show fS k j l (r.aH++[nU l])=_;rw[Kq,dW,yr,bA0<|by grind[nU,aG.zero]];rfl
 have a:∀j,HH l (r.lF<|nU l) c N j=HH l r c N j:=fun j=>by unfold HH pd;grind
 have i:∀x,x∈(r.lF<|nU l).aH->x.kind≠0->x∈r.aH:=fun x b k=>by
  have b:x∈r.aH++[nU l]:=b;rcases cj.1 b with b|b;exact b;rw[aV.1 b] at k;exact absurd rfl k
 constructor;exact Ie h.jA rfl ⟨by show(0:Int)<=0;omega,by show(0:Int)<4;omega⟩<|.inl rfl;exact h.ks;exact h.kg;exact h.kV;exact h.nc;exact h.ex;exact h.A7;intro j e;rw[f 1 j FA,f 2 j FA];exact h.t1 j e;intro j e;have o:=h.t2 j e;grind;exact h.t3;exact h.t4;simp only[a];exact h.a1;simp only[a];exact h.a2;exact fun x b k=>h.rq x FB k;exact h.rs;simp only[a];exact h.c1;simp only[a];exact h.c2;simp only[a];exact h.Hv;simp only[a];exact h.gN;exact h.pN;simp only[a];exact h.rN;exact fun x b k=>h.uN x FB k;simp only[a];exact h.c3;simp only[a];exact h.c5;exact h.k2
theorem gB.aFs (h:gB l r m V c N) (hb:r.busy=false) (hw:r.aH=n::w) (W:n.kind=3):
  gB l ((r.next w).iB n.core) (if r.owner=n.core/\n.oU=true then(n.d0,n.d1) else m) V c (mR 10 n.core l::N):=by
 obtain⟨hq,hg,ht⟩:=h.Qk hb
 have u:=h.jA.aH n FB
 obtain⟨i,y,U,F⟩:=jT u.2.1
 have g:=fun x f=>h.yJ hq (x:=x) f
 have v:∀k j,fS k j l r.aH=fS k j l w+if k=3/\j=i then 1 else 0:=fun k j=>by
  grind[dW]
 have o:∀k j,fS k j l (mR 10 n.core l::N)=fS k j l N+if k=10/\j=i then 1 else 0:=fun k j=>by
  grind[dW,mR]
 have g0:∀j,Ce r j=0/\Ce ((r.next w).iB n.core) j=0:=fun j=>⟨by grind[Ce],by unfold Ce;rw[bA0];intro e;have:r.cG=true:=e.1;grind⟩
 have e8:∀x∈N,x.kind≠8:=fun x f k=>by
  obtain⟨j,a,E,_⟩:=jT (h.nc x f).2;exact h.no8 a (g0 j).1 f k E
 have D:∀j,j<4->(HH l r c N j=1↔r.sh j=true)/\(2<=HH l r c N j↔r.owner=(j:Int)):=fun j a=>h.c1 j a (by have:=h.t3 j a;grind[hM]) (by have:=h.t4 j a;grind)
 have P:(c i).gi=true/\fS 3 i l N=0/\fS 3 i l w=0/\fS 10 i l N=0:=by
  have:=h.t2 i y;rw[v,bA1 ⟨rfl,rfl⟩] at this;cases f:(c i).gi with
  |false=>grind
  |true=>grind
 have I:(c i).st=0/\(c i).qO=false:=by
  have:=h.ex i y;rw[P.1] at this;constructor;grind;grind
 have O:HH l r c N i=(c i).gs:=by
  unfold HH F5 pd;rw[v,I.1,P.1];simp
 have A:HH l ((r.next w).iB n.core) c (mR 10 n.core l::N) i=0:=by
  unfold HH F5;have:pd l ((r.next w).iB n.core) (mR 10 n.core l::N) i=0:=by
   unfold pd;rw[o];show _+fS 3 i l w=0;grind
  grind
 have eH:∀j,j≠i->HH l ((r.next w).iB n.core) c (mR 10 n.core l::N) j=HH l r c N j:=fun j e=>by
  unfold HH;have:pd l ((r.next w).iB n.core) (mR 10 n.core l::N) j=pd l r N j:=by
   unfold pd;rw[o,v];show _+fS 3 j l w=_;simp[e]
  rw[this]
 have hle:∀j,j<4->HH l ((r.next w).iB n.core) c (mR 10 n.core l::N) j=HH l r c N j\/(j=i/\HH l ((r.next w).iB n.core) c (mR 10 n.core l::N) j=0):=FB
 have q:∀x,x∈mR 10 n.core l::N->x=mR 10 n.core l\/x∈N:=FB
 have t:∀x,x∈w->x∈r.aH:=FB
 have Z:∀x,x=mR 10 n.core l->x.kind=10:=fun x e=>GF
 have J:=h.uN n (.inr FB) W
 rw[F] at J
 constructor
 case jA=>exact Gh<|Iv h.jA hw
 case ks=>exact h.ks
 case kg=>exact h.kg
 case kV=>exact h.kV
 case nc=>intro x f;rcases q x f with rfl|f;exact⟨rfl,u.2.1⟩;exact h.nc x f
 case ex=>exact h.ex
 case A7=>exact h.A7
 case t1=>
  intro j a
  have p:=h.t1 j a
  have e0:By ((r.next w).iB n.core) j=By r j:=rfl
  rw[show((r.next w).iB n.core).aH=w from rfl]
  grind
 case t2=>
  intro j a
  have p:=h.t2 j a
  simp only[v,o] at p ⊢
  show fS 3 j l N+_+fS 3 j l w+_=_
  grind
 case t3=>intro j a;have p:_=(((r.next w).iB n.core).dS j).toNat:=h.t3 j a;grind
 case t4=>intro j a;have p:=h.t4 j a;grind
 case a1=>intro j a B;have:=h.a1 j a B;grind
 case a2=>intro j a B hb;have:=h.a2 j a B hb;grind
 case rq=>intro x f k;exact h.rq x (f.elim FB fun f=> .inr (t x f)) k
 case rs=>exact h.rs
 case c1=>
  intro j a _ _
  by_cases e:j=i
  .rw[e,A];constructor
   .show _↔mD r.sh n.core false i=true;unfold mD;grind
   .show _↔(if r.owner=n.core then(-1:Int) else r.owner)=(i:Int);grind
  .constructor
   .show _↔mD r.sh n.core false j=true;unfold mD;grind
   .show _↔(if r.owner=n.core then(-1:Int) else r.owner)=(j:Int);grind
 case c2=>
  intro j a R k Y e
  have z:=h.c2 j a
  grind
 case Hv=>grind
 case gN=>grind
 case pN=>grind
 case rN=>grind
 case uN=>intro x f k;exact h.uN x (f.elim FB fun f=> .inr (t x f)) k
 case c3=>
  intro j a z
  rcases hle j a with K|K
  .rw[K] at z;exact h.c3 j a z
  grind
 case c5=>
  intro p _
  by_cases ho:r.owner=n.core
  .have R:=(D i y).2.2 FA;have T:=h.c3 i y FA;unfold yU at T;by_cases hd:n.oU=true
   .grind
   .rw[bA0 FB];refine h.c5 (fun j a=>?_) fun x f k=>absurd k (g x f).1;grind
  .rw[bA0 fun e=>ho e.1];refine h.c5 (fun j a=>?_) fun x f k=>absurd k (g x f).1;grind
 case k2=>intro b;rw[show((r.next w).iB n.core).busy=r.busy from rfl,hb] at b;cases b
theorem gB.eX (h:gB l r m V c N) (hb:r.busy=false) (o:r.aH=n::w):
  gB l (bP.eX (r.next w) l m n j).1.1 (bP.eX (r.next w) l m n j).1.2 V c ((bP.eX (r.next w) l m n j).2++N):=by
 obtain⟨A,t,v⟩:=h.Qk hb
 have J:=h.jA.aH n FB
 obtain⟨i,T,α,β⟩:=jT J.2.1
 have g:∀j,j<4->r.dS j=false:=fun j p=>hM A p
 have Z:∀j,j<4->(HH l r c N j=1↔r.sh j=true)/\(2<=HH l r c N j↔r.owner=(j:Int)):=fun j p=>h.c1 j p (by have:=h.t3 j p;grind) (by have:=h.t4 j p;grind[Ce])
 have γ:=h.jA.owner
 unfold bP.eX
 by_cases R:n.kind=3
 .rw[bA1 R];exact h.aFs hb o R
 .rw[bA0 R];by_cases y:n.kind=1\/n.kind=2
  .rw[bA1 y];by_cases p:(j n.bA).2=true
   .rw[bA1 p];have I:((r.next w).iM n (j n.bA).1).aX=n:=rfl;unfold bP.get;by_cases B:n.kind=2
    .simp only[bA1 B];unfold bP.Ky;by_cases hf:((r.next w).iM n (j n.bA).1).first n.core≠ -1
     .rw[bA1 FB];have u:∀a,a∈((r.next w).iM n (j n.bA).1).iV n.core->a<4/\(r.sh a=true\/r.owner=(a:Int)):=fun a b=>by
       have:=tT.1 b;have D:r.lY n.core a=true:=this.2;grind[bP.lY]
      refine h.Sm hb o FA Eg u (fun _ a b q F5=>tT.2 ⟨b,?_⟩) FA FB ⟨rfl,rfl,rfl,rfl,rfl,t,v⟩ fun a b=>?_
      .show r.lY n.core a=true;grind[bP.lY]
      .show(r.dS a||(((r.next w).iM n _).iV n.core).contains a)=_;grind
     .rw[bA0 FB];have z:=Ii.1<|Classical.not_not.1 hf;have F:=h.Sm (r':=(r.next w).iM n (j n.bA).1) (st:=0) hb o FA DW FB
       (fun _ a b q F5=>by
        have D:r.sh a=false/\(a:Int)≠r.owner:=z a b<|q B;grind) FA FB ⟨rfl,rfl,rfl,rfl,rfl,t,v⟩ (fun a b=>by show r.dS a=_;grind)
      have f:((r.next w).iM n (j n.bA).1).yU m=m:=GR
      rw[f]
      have E:∀a,HH l ((r.next w).iM n (j n.bA).1) c (eR l 0 []++N) a=HH l r c N a:=fun a=>by
       unfold HH pd;show F5 _ (fS 3 a l N+fS 3 a l w)=_;simp_all[dW,bA0]
      refine(F.dZ rfl t A (.inr B) (fun Y=>(h.c5 (fun a b=>?_) fun x q k=>absurd k (h.yJ A q).1)) FB).1
      by_cases e:a=i
      .grind
      .have D:r.sh a=false/\(a:Int)≠r.owner:=z a b FB;grind
    .simp only[bA0 B];have P:n.kind=1:=FA
     have δ:=(h.rq n (.inr FB)<|.inl P)
     have kG:(c i).qO=true:=by
      have:=h.t1 i T;rw[o,dW,aac] at this;cases q:(c i).qO<;>simp_all
     have Y:=h.a2 i T kG FB
     have K:r.owner≠n.core:=FB
     have O:((r.next w).iM n (j n.bA).1).jZ=(r.next w).iM n (j n.bA).1:=by unfold bP.jZ;exact bA0 K
     rw[O]
     unfold bP.Jv
     by_cases U:r.owner≠ -1
     .rw[bA1<|show((r.next w).iM n _).owner≠ -1 from U];refine h.Sm hb o FA FB (fun a b=>?_) FA (fun _ a b=>?_) FB ⟨rfl,rfl,rfl,rfl,rfl,t,v⟩ (fun a b=>?_)
      .have b:a=((r.next w).iM n (j n.bA).1).owner.toNat:=GH
       have b:a=r.owner.toNat:=b
       grind
      .have b:a=((r.next w).iM n (j n.bA).1).owner.toNat:=GH
       have b:a=r.owner.toNat:=b
       omega
      .show(r.dS a||[r.owner.toNat].contains a)=_;rw[g a b];simp;rfl
     .rw[bA0<|show ¬((r.next w).iM n _).owner≠ -1 from U];have F:=h.Sm (r':=(r.next w).iM n (j n.bA).1) hb o FA DW FB
       FA FB (by rw[bA1 P]) ⟨rfl,rfl,rfl,rfl,rfl,t,v⟩ (fun a b=>by show r.dS a=_;grind)
      have f:((r.next w).iM n (j n.bA).1).yU m=m:=GR
      rw[f]
      have E:∀a,HH l ((r.next w).iM n (j n.bA).1) c (eR l 1 []++N) a=HH l r c N a:=fun a=>by
       unfold HH pd;show F5 _ (fS 3 a l N+fS 3 a l w)=_;simp_all[dW,bA0]
      refine(F.dZ rfl t A (.inl P) (fun _=>h.c5 (fun a b=>?_) fun x q k=>absurd k (h.yJ A q).1) fun _ a b=>?_).1
      .grind
      grind
   .rw[bA0 p];exact h.aUq o y
  .rw[bA0 y];have W:n.kind=0:=FB
   split
   .exact h.aVy o W
   .have u:∀a,a∈(r.next w).iV (-1)->a<4/\(r.sh a=true\/r.owner=(a:Int)):=fun a b=>by
     have:=tT.1 b;have D:r.lY (-1) a=true:=this.2;grind[bP.lY]
    refine h.Sm hb o (.inl W) Eg u (fun _ a b q F5=>tT.2 ⟨b,?_⟩) FA FB ⟨rfl,rfl,rfl,rfl,rfl,t,v⟩ fun a b=>?_
    .show r.lY (-1) a=true;grind[bP.lY]
    .show(r.dS a||((r.next w).iV<|-1).contains a)=_;grind
theorem gB.aIn {a:Ln} (h:gB l r m V c N) (e:∀i,i<4->HH l r c N i=0) (f:∀x∈N,x.kind≠8/\(x.kind=5->x.oU=false)):gB l r a a c N:=by
 constructor;case jA=>exact h.jA
 case ks=>exact h.ks
 case kg=>exact h.kg
 case kV=>exact h.kV
 case nc=>exact h.nc
 case ex=>exact h.ex
 case A7=>exact h.A7
 case t1=>exact h.t1
 case t2=>exact h.t2
 case t3=>exact h.t3
 case t4=>exact h.t4
 case a1=>exact h.a1
 case a2=>exact h.a2
 case rq=>exact h.rq
 case rs=>exact h.rs
 case c1=>exact h.c1
 case c2=>exact h.c2
 case Hv=>exact h.Hv
 case gN=>grind
 case pN=>exact h.pN
 case rN=>exact fun x b k=>⟨(h.rN x b k).1,(h.rN x b k).2.1,FB⟩
 case uN=>exact h.uN
 case c3=>grind
 case c5=>grind
 grind[k2]
theorem gB.zero (l:Nat):gB l Ee (0,0) (0,0) (fun _=>⟨0,(0,0),false,false,false,0,(0,0)⟩) []:=by
 have b:∀i,HH l Ee (fun _=>⟨0,(0,0),false,false,false,0,(0,0)⟩) [] i=0:=fun i=>by unfold HH F5 pd;simp
 constructor;exact aPf l;intro e;cases e;intro e;cases e;intro e;cases e;grind;grind;grind;intro _ _;rfl;intro _ _;rfl;intro _ _;rfl;intro _ _;rfl;grind;grind;intro x a;rcases a with a|a<;>cases a;intro e;cases e;grind[Ee];grind;grind;grind;grind;grind;intro x a;rcases a with a|a<;>cases a;grind;grind;intro e;cases e
end
variable {s:jR} {nt:aG}
section
variable {ways:Nat} {S:Nat->IC} {no:Int} {x:vU} {C:bQ} {core:Int}
def dT (n:Nat) (s:jR) (l:Nat):CL where
 st:=if(bJ n s.S l).2=0 then(bJ n s.S l).1.st else 0
 d:=if(bJ n s.S l).2=0 then(bJ n s.S l).1.d else(0,0)
 qO:=s.pO&&decide (s.al=l)
 aw:=s.pO&&decide (s.al=l)&&s.aw
 gi:=s.uH&&decide (s.gl=l)
 gs:=if s.uH=true/\s.gl=l then s.gc.st else 0
 gd:=if s.uH=true/\s.gl=l then s.gc.d else(0,0)
def Jc:(dT n s l).st=if(bJ n s.S l).2=0 then(bJ n s.S l).1.st else 0:=rfl
def aNx:(dT n s l).d=if(bJ n s.S l).2=0 then(bJ n s.S l).1.d else(0,0):=rfl
def aQb:(dT n s l).gs=if s.uH=true/\s.gl=l then s.gc.st else 0:=rfl
def aPs:(dT n s l).gd=if s.uH=true/\s.gl=l then s.gc.d else(0,0):=rfl
theorem aA9 {l:Int} {L:IC} (h:l≠no):Go.Ct.get l (zI no L)=Go.Ct.get l L:=by
 induction L with
 |nil=>rfl
 |cons t L a=>
  grind[zI,Go.Ct.get]
theorem aNi {l:Int} {L:IC} (h:l≠no):Go.Ct.get l (L++[(no,x)])=Go.Ct.get l L:=by
 grind[Go.Ct.get]
theorem j5 {l:Int} {L:IC} (h:cT n l=m->Go.Ct.get l L=Go.Ct.get l (S m)):bJ n (bD S m L) l=bJ n S l:=by
 grind[bJ,cT,cQ,bO]
theorem nF {l:Int} (h:l≠no):bJ n (jN n S no) l=bJ n S l:=by
 grind[jN,j5,aA9]
theorem mV {l:Int} (h:l≠no):bJ n (pD n ways S no x).1 l=bJ n S l:=by
 grind[pD,j5,aA9,aNi]
theorem D7 {l:Int} (h:l≠no):bJ n (Ge n ways S no) l=bJ n S l:=by
 grind[Ge,mV,nF]
def Ix (a:∀i,tW ways<|S i) (b:0<=no):(bJ n (jN n S no) no).2=12:=by
 unfold jN;rw[aaa];unfold bJ;rw[aaa,cQ,xv<|Qr (a _).nd]
theorem Gp:(jN n S no i).length<=(S i).length:=by
 unfold jN;split;grind;unfold bD;split;rename_i e;subst e;exact zG.length_le;grind
theorem a7 (b:(bJ n S no).2=0):((pD n ways S no x).1 i).length<=(S i).length:=by
 obtain⟨a,e⟩:=tL b;have:=Rt a;unfold pD;split;grind[bD];grind[bD]
theorem Z7 (g:∀i,tW ways<|S i) (a:(bJ n S no).2=0):(Ge n ways S no i).length<=(S i).length:=by
 obtain⟨b,f⟩:=tL a;have j:=Rt b;unfold Ge;rw[bA1 a];unfold pD;have e:zI no (jN n S no<|cT n no)=zI no (S<|cT n no):=by rw[Zx f,yz (g _).nd]
 split;grind[bD,Gp];grind[bD,Gp]
theorem Qu (a:(bJ n S no).2=0):(jN n S no<|cT n no).length<(S<|cT n no).length:=by
 obtain⟨b,e⟩:=tL a;simp_all[Zx,Rt]
structure Kz (C:bQ) (s:jR):Prop where
 al:s.pO=true->(0<=s.al/\s.al<C.aF)/\((bJ C.aY.toNat s.S s.al).2=0\/(s.S<|cT C.aY.toNat s.al).length<C.ways.toNat)
 gl:s.uH=true->0<=s.gl/\s.gl<C.aF
 bd:∀l,(bJ C.aY.toNat s.S l).2=0->l<C.aF
theorem jh {l:Int}:(bJ n jR.kD.S l).2≠0:=by
 grind[bJ,jR.kD,Go.Ct.get]
theorem Kz.kD:Kz C jR.kD:=⟨(fun e=>by cases e),(fun e=>by cases e),fun _ e=>absurd e jh⟩
theorem aBl {l j:Int} (g:iJ C s) (h:Kz C s):Kz C (pH C s l a j):=by
 unfold pH;split
 .rename_i i;have b:=(wV i).2.2.1;refine⟨fun e=>⟨(h.al e).1,?_⟩,h.gl,fun k o=>?_⟩;rotate_left;by_cases e2:k=l;rw[e2];exact(wV i).1.2;exact h.bd k (by simp_all[l6,Prod.snd,D7]);rcases(h.al e).2 with f|f;left;by_cases e2:s.al=l;rw[e2,Hq g.aY b];exact b;grind[bJ,Ge,D7];right;exact BX (Z7 g.aY b) f
 exact h
theorem qe {l j:Int} (f:iJ C s) (h:Kz C s):Kz C (mU C s l a j v):=by
 unfold mU;split
 .rename_i b;have i:=(wV b).2.2.1;refine⟨fun e=>⟨(h.al e).1,?_⟩,h.gl,fun k o=>?_⟩;rotate_left;by_cases e2:k=l;rw[e2];exact(wV b).1.2;exact h.bd k (by simp_all[l6,Prod.snd,mV]);rcases(h.al e).2 with g|g;left;by_cases e2:s.al=l;rw[e2,zW f.aY (wV b).1.1<|yF f.aY i];grind[mV];grind[Nat.lt_of_le_of_lt,a7]
 exact h
theorem aOq {l g:Int} (b:iJ C s):dT C.aY.toNat (pH C s l a g) k=dT C.aY.toNat s k:=by
 unfold pH;split;rename_i f;unfold dT;have:bJ C.aY.toNat (Ge C.aY.toNat C.ways.toNat s.S l) k=bJ C.aY.toNat s.S k:=by
  by_cases e:(k:Int)=l;rw[e];exact Hq b.aY<|(wV f).2.2.1;exact D7 e
 grind;rfl
theorem tk {l b:Int} (h:(k:Int)≠l):dT C.aY.toNat (mU C s l a b v) k=dT C.aY.toNat s k:=by
 grind[mU,dT,mV]
theorem aJd {i:Int} (f:iJ C s) (g:tD C s.S k a i true=0):
  ((dT C.aY.toNat s k).st=2\/(dT C.aY.toNat s k).st=4)/\dT C.aY.toNat (mU C s k a i v) k={dT C.aY.toNat s k with st:=4,d:=aKn (dT C.aY.toNat s k).d a v}:=by
 have e:=wV g
 have b:=e.2.2.1
 have j:(dT C.aY.toNat s k).st=(bJ C.aY.toNat s.S k).1.st:=by rw[Jc,bA1 b]
 constructor
 .grind[rR,Ch]
 .unfold mU;rw[bA1 g];unfold dT;simp only[zW (x:=Jw C.aY.toNat s.S k a v) f.aY e.1.1<|yF f.aY b,b,ew];rfl
theorem aBu (b:nt.kind=9) (g:nt.aI=k) (e:k<C.aF) (a:(dT C.aY.toNat s k).qO=true):
  fP C core s nt=({s with al:=0,aw:=false,pO:=false},[],0)/\dT C.aY.toNat {s with al:=0,aw:=false,pO:=false} k={dT C.aY.toNat s k with qO:=false,aw:=false}/\
   ∀j:Nat,j≠k->dT C.aY.toNat {s with al:=0,aw:=false,pO:=false} j=dT C.aY.toNat s j:=by
 have a:s.pO=true/\s.al=k:=by unfold dT at a;simpa using a
 refine⟨?_,?_,?_⟩
 .unfold fP;rw[aaa,bA1 b,bA0<|by grind[vH]];grind[Bh]
 .unfold dT;simp
 .intro j f;unfold dT;have:decide (s.al=(j:Int))=false:=FB;simp[this]
theorem ga (b:nt.kind=10) (f:nt.aI=k) (e:k<C.aF) (a:(dT C.aY.toNat s k).gi=true):
  fP C core s nt=({s with gl:=0,gc:=vU.zero,uH:=false},[],0)/\dT C.aY.toNat {s with gl:=0,gc:=vU.zero,uH:=false} k={dT C.aY.toNat s k with gi:=false,gs:=0,gd:=(0,0)}/\
   ∀j:Nat,j≠k->dT C.aY.toNat {s with gl:=0,gc:=vU.zero,uH:=false} j=dT C.aY.toNat s j:=by
 have a:s.uH=true/\s.gl=k:=by unfold dT at a;simpa using a
 refine⟨?_,?_,?_⟩
 .unfold fP;rw[aaa,aaa,bA1 b,bA0<|by grind[vH]];grind[rS]
 .unfold dT;simp
 grind[dT]
theorem R7 (u:nt.kind=8) (o:nt.aI=k) (v:k<C.aF) (i:iJ C s) (p:Kz C s) (b:(dT C.aY.toNat s k).qO=true) (w:1<=nt.state/\nt.state<=4):
  ∃a,fP C core s nt=(a,[⟨4,core,nt.aI,0,0,0,0,false,0⟩],0)/\a={s with S:=a.S,al:=0,aw:=false,pO:=false}/\
   dT C.aY.toNat a k={dT C.aY.toNat s k with st:=nt.state,d:=if(dT C.aY.toNat s k).st≠0 then(dT C.aY.toNat s k).d else(nt.d0,nt.d1),qO:=false,aw:=false}/\
   (∀j:Nat,j≠k->dT C.aY.toNat a j=dT C.aY.toNat s j)/\Kz C a:=by
 have b:s.pO=true/\s.al=k:=by unfold dT at b;simpa using b
 have f:(pD C.aY.toNat C.ways.toNat s.S nt.aI<|oR C s nt).2=0:=by
  rcases(p.al b.1).2 with h|h;rw[b.2,<-o] at h;exact yF i.aY h;grind[pD,zG,cT]
 have g:=zW i.aY (by omega:0<=nt.aI) f
 refine⟨{s with S:=(pD C.aY.toNat C.ways.toNat s.S nt.aI<|oR C s nt).1,al:=0,aw:=false,pO:=false},?_,rfl,?_,?_,FB,p.gl,fun j t=>?_⟩
 .unfold fP;rw[bA1 u,bA0<|by grind[vH]];grind[vJ]
 .unfold dT;rw[o] at g ⊢;simp only[g,ew];have e:(oR C s nt).d=if(bJ C.aY.toNat s.S k).2=0 then(bJ C.aY.toNat s.S k).1.d else(nt.d0,nt.d1):=by unfold oR;rw[o]
  rw[e]
  by_cases q:(bJ C.aY.toNat s.S k).2=0
  .have:=uS i.aY q;grind[bJ,oR]
  .simp[oR,q]
 .intro j t;unfold dT;grind[mV,Int]
 .by_cases e2:j=nt.aI
  .omega
  .exact p.bd j (by simp_all[l6,Prod.snd,mV])
theorem qz (T:nt.kind=11) (u:nt.aI=k) (U:k<C.aF) (v:iJ C s) (i:Kz C s) (Y:nt.state=0\/nt.state=1)
  (P:(dT C.aY.toNat s k).st≠0\/((dT C.aY.toNat s k).st=0/\(dT C.aY.toNat s k).gi=true)):
  ∃g y,fP C core s nt=(g,[y],0)/\g.al=s.al/\g.aw=s.aw/\g.pO=s.pO/\g.gl=s.gl/\g.uH=s.uH/\Kz C g/\
   (y.kind=5/\y.core=core/\y.aI=k/\y.bA=0/\y.no=0/\∀σ δ,σ=(if(dT C.aY.toNat s k).st≠0 then(dT C.aY.toNat s k).st else(dT C.aY.toNat s k).gs)->δ=(if(dT C.aY.toNat s k).st≠0 then(dT C.aY.toNat s k).d else(dT C.aY.toNat s k).gd)->
    y.state=kN σ nt.state/\(y.oU=true↔σ=3\/σ=4)/\(y.oU=true->(y.d0,y.d1)=δ))/\
   ((dT C.aY.toNat g k).qO=(dT C.aY.toNat s k).qO/\(dT C.aY.toNat g k).aw=(dT C.aY.toNat s k).aw/\(dT C.aY.toNat g k).gi=(dT C.aY.toNat s k).gi/\(dT C.aY.toNat g k).gd=(dT C.aY.toNat s k).gd)/\
   ((dT C.aY.toNat s k).st≠0->(dT C.aY.toNat g k).st=kN (dT C.aY.toNat s k).st nt.state/\((dT C.aY.toNat g k).st≠0->(dT C.aY.toNat g k).d=(dT C.aY.toNat s k).d)/\(dT C.aY.toNat g k).gs=(dT C.aY.toNat s k).gs)/\
   ((dT C.aY.toNat s k).st=0->(dT C.aY.toNat g k).st=0/\(dT C.aY.toNat g k).gs=kN (dT C.aY.toNat s k).gs nt.state)/\
   (∀j:Nat,j≠k->dT C.aY.toNat g j=dT C.aY.toNat s j):=by
 have q:∀(x:vU),(iQ core nt x).kind=5/\(iQ core nt x).core=core/\(iQ core nt x).aI=nt.aI/\(iQ core nt x).bA=0/\(iQ core nt x).no=0/\(iQ core nt x).state=kN x.st nt.state/\((iQ core nt x).oU=true↔x.st=3\/x.st=4)/\((iQ core nt x).oU=true->((iQ core nt x).d0,(iQ core nt x).d1)=x.d):=fun x=>by
  unfold iQ;split;simp_all[qK,true];refine⟨rfl,rfl,rfl,rfl,rfl,rfl,?_,FB⟩;grind[Kp]
 have Z:fP C core s nt=lI C core s nt:=by
  unfold fP;rw[aaa,aaa,aaa,bA1 T,bA0<|by grind[vH]]
 rw[Z]
 unfold lI
 rw[aaa]
 by_cases p:(bJ C.aY.toNat s.S nt.aI).2=0
 .rw[bA1 p];have J:=uS v.aY p;have D:(bJ C.aY.toNat s.S k).2=0:=by rw[<-u];exact p
  have f:(dT C.aY.toNat s k).st=(bJ C.aY.toNat s.S nt.aI).1.st:=by rw[Jc,bA1 D,u]
  have E:(dT C.aY.toNat s k).d=(bJ C.aY.toNat s.S nt.aI).1.d:=by rw[aNx,bA1 D,u]
  have B:(dT C.aY.toNat s k).st≠0:=by rw[f];omega
  have b:=q (bJ C.aY.toNat s.S nt.aI).1
  have R:∀t:Nat->IC,({s with S:=t}:jR).al=s.al:=fun _=>rfl
  have a:∀t:Nat->IC,(dT C.aY.toNat {s with S:=t} k).qO=(dT C.aY.toNat s k).qO/\(dT C.aY.toNat {s with S:=t} k).aw=(dT C.aY.toNat s k).aw/\(dT C.aY.toNat {s with S:=t} k).gi=(dT C.aY.toNat s k).gi/\(dT C.aY.toNat {s with S:=t} k).gd=(dT C.aY.toNat s k).gd/\(dT C.aY.toNat {s with S:=t} k).gs=(dT C.aY.toNat s k).gs:=fun _=>⟨rfl,rfl,rfl,rfl,rfl⟩
  by_cases F:kN (bJ C.aY.toNat s.S nt.aI).1.st nt.state=0
  .simp only[bA1 F];refine⟨_,_,rfl,rfl,rfl,rfl,rfl,rfl,⟨fun e=>⟨(i.al e).1,?_⟩,i.gl,fun j w=>?_⟩,⟨b.1,b.2.1,FB,b.2.2.2.1,b.2.2.2.2.1,fun σ δ O K=>?_⟩,⟨(a _).1,(a _).2.1,(a _).2.2.1,(a _).2.2.2.1⟩,fun _=>⟨?_,fun I=>?_,(a _).2.2.2.2⟩,fun e=>absurd e B,fun j w=>?_⟩
   .by_cases e2:s.al=nt.aI
    .right;rw[e2];exact l7 (Qu p) (v.aY _).len
    .rcases(i.al e).2 with h|h
     .left;rw[nF e2];exact h
     .right;exact BX Gp h
   .by_cases e2:j=nt.aI
    .omega
    .exact i.bd j (by rw[<-w];exact(l6 Prod.snd<|nF e2).symm)
   .grind
   .rw[f,F];rw[Jc,bA0];rw[<-u,Ix v.aY FA];decide
   .exfalso;apply I;rw[Jc,bA0];rw[<-u,Ix v.aY FA];decide
   .unfold dT;simp only[nF<|show(j:Int)≠nt.aI by omega]
  .simp only[bA0 F];have W:=zW (x:={(bJ C.aY.toNat s.S nt.aI).1 with st:=kN (bJ C.aY.toNat s.S nt.aI).1.st nt.state}) v.aY (by omega:0<=nt.aI)<|yF v.aY p;refine⟨_,_,rfl,rfl,rfl,rfl,rfl,rfl,⟨fun e=>⟨(i.al e).1,?_⟩,i.gl,fun j w=>?_⟩,⟨b.1,b.2.1,by rw[b.2.2.1,u],b.2.2.2.1,b.2.2.2.2.1,fun σ δ O K=>?_⟩,⟨(a _).1,(a _).2.1,(a _).2.2.1,(a _).2.2.2.1⟩,fun _=>⟨?_,fun I=>?_,(a _).2.2.2.2⟩,fun e=>absurd e B,fun j w=>?_⟩
   .by_cases e2:s.al=nt.aI
    .grind
    .rcases(i.al e).2 with h|h
     .grind[bJ,pD,mV]
     .right;exact BX (a7 p) h
   .by_cases e2:j=nt.aI
    .omega
    .exact i.bd j (by rw[<-w];exact(l6 Prod.snd<|mV e2).symm)
   .grind
   .rw[f,Jc];grind
   .rw[E,aNx];grind
   .unfold dT;simp only[mV<|show(j:Int)≠nt.aI by omega]
 .rw[bA0 p];have f:(dT C.aY.toNat s k).st=0:=by rw[Jc,bA0<|by rw[<-u];exact p]
  have o:s.uH=true/\s.gl=k:=by
   rcases P with h|h;grind;grind[dT]
  rw[bA0 FB,aaa]
  have b:=q s.gc
  have A:(dT C.aY.toNat s k).gs=s.gc.st:=by rw[aQb,bA1 o]
  have z:(dT C.aY.toNat s k).gd=s.gc.d:=by rw[aPs,bA1 o]
  refine⟨_,_,rfl,rfl,rfl,rfl,rfl,rfl,⟨i.al,i.gl,i.bd⟩,⟨b.1,b.2.1,FB,b.2.2.2.1,b.2.2.2.2.1,fun σ δ O K=>?_⟩,⟨rfl,rfl,rfl,?_⟩,fun e=>absurd f e,fun _=>⟨f,?_⟩,fun j w=>?_⟩
  .grind
  .rw[z,aPs,bA1<|show s.uH=true/\s.gl=k from o]
  .rw[A,aQb,bA1<|show s.uH=true/\s.gl=k from o]
  .unfold dT;grind
end
variable {C:bQ} {H:nD} {X:Nat->jR} {V:Nat->Ln} {N:IA} {n:aG}
def PK (k:Int):Prop:=(1<=k/\k<=5)\/(8<=k/\k<=11)
instance (k:Int):Decidable (PK k):=by unfold PK;infer_instance
def Q8 (l:Nat) (n:aG):Bool:=decide<|n.aI=(l:Int)/\PK n.kind
def H5 (l:Nat) (N:IA):IA:=N.filter<|Q8 l
theorem Rw (h:n.aI=(l:Int)) (a:PK n.kind):H5 l (n::N)=n::H5 l N:=by
 grind[H5,List.filter_cons_of_pos,Q8]
theorem Ol (h:¬(n.aI=(l:Int)/\PK n.kind)):H5 l (n::N)=H5 l N:=by
 grind[H5,List.filter_cons_of_neg,Q8]
theorem Kg:H5 l (N++N')=H5 l N++H5 l N':=AJ N N'
theorem aMn (h:∀x∈N,x.aI=(l:Int)/\PK x.kind):H5 l N=N:=AS.2 fun x a=>cL<|h x a
theorem pe (h:∀x∈N,¬(x.aI=(l:Int)/\PK x.kind)):H5 l N=[]:=BY.2 fun x a=>by unfold Q8;grind
theorem zH {x:aG}:x∈H5 l N↔x∈N/\x.aI=(l:Int)/\PK x.kind:=by unfold H5 Q8;grind
abbrev rY (C:bQ) (X:Nat->jR) (l:Nat):CLs:=fun i=>dT C.aY.toNat (X i) l
structure sV (C:bQ) (H:nD) (X:Nat->jR) (V:Nat->Ln) (N:IA):Prop where
 aI:∀l:Nat,l<C.aF->gB l (H l).1 (H l).2 (V l) (rY C X l) (H5 l N)
 yK:∀i:Nat,i<4->iJ C (X i)
 Bc:∀i:Nat,i<4->Kz C (X i)
 kD:∀i:Nat,C.aB<=(i:Int)->X i=jR.kD
 nb:∀x∈N,PK x.kind->(0<=x.core/\x.core<C.aB)/\(0<=x.aI/\x.aI<C.aF)
def aH0 {n:Nat}:dT n jR.kD l=⟨0,(0,0),false,false,false,0,(0,0)⟩:=by
 unfold dT;rfl
theorem Dy:rY C (bD X i s) l=bD (rY C X l) i (dT C.aY.toNat s l):=by
 grind[dT,cQ,bO]
theorem yD (h:dT C.aY.toNat s l=dT C.aY.toNat (X i) l):rY C (bD X i s) l=rY C X l:=by
 grind[dT,cQ,bO]
theorem sV.cH (h:sV C H X V N) (p:N.Perm N'):sV C H X V N':=
 ⟨fun l a=>(h.aI l a).cH<|p.filter _,h.yK,h.Bc,h.kD,fun x b=>h.nb x FB⟩
theorem sV.skip (h:sV C H X V (n::N)) (b:¬PK n.kind):sV C H X V N:=
 ⟨fun l a=>by have:=h.aI l a;grind[Ol],h.yK,h.Bc,h.kD,fun x e=>h.nb x FB⟩
theorem sV.O5 (h:sV C H X V N) (f:∀x∈N',¬PK x.kind):sV C H X V (N'++N):=
 ⟨fun l b=>by have:=h.aI l b;grind[Kg,pe],h.yK,h.Bc,h.kD,fun x a e=>by
  rcases cj.1 a with a|a;grind;exact h.nb x a e⟩
theorem sV.i4 (hC:C.Ok) {i:Int} (h:0<=i/\i<C.aB):i.toNat<4/\((i.toNat:Nat):Int)=i:=by
 grind[bQ.Ok]
theorem sV.jB {H':nD} {a:Nat->jR} {f:Nat->Ln} {A:IA} (h:sV C H X V N) (z:k<C.aF)
  (B:gB k (H' k).1 (H' k).2 (f k) (rY C a k) (A++H5 k N')) (v:∀l,l≠k->H' l=H l) (w:∀l,l≠k->f l=V l) (y:∀l,l≠k->rY C a l=rY C X l)
  (hA:∀x∈A,x.aI=(k:Int)/\PK x.kind/\0<=x.core/\x.core<C.aB) (o:∀l,l≠k->H5 l N'=H5 l N) (g:∀x∈N',x∈N)
  (p:∀i:Nat,i<4->iJ C (a i)) (u:∀i:Nat,i<4->Kz C (a i)) (q:∀i:Nat,C.aB<=(i:Int)->a i=jR.kD):sV C H' a f (A++N'):=by
 refine⟨fun l j=>?_,p,u,q,fun x b t=>?_⟩
 .by_cases e:l=k
  .simp_all[Kg,aMn]
  .rw[v l e,w l e,y l e,Kg,pe FB,gk,o l e];exact h.aI l j
 .rcases cj.1 b with b|b
  .grind
  .exact h.nb x (g x b) t
theorem xL (h:sV C H X V N) (b:iJ C s):∀j:Nat,j<4->iJ C (bD X i s j):=fun j a=>by
 by_cases e:j=i;grind[cQ];rw[bO e];exact h.yK j a
theorem xU (h:sV C H X V N) (b:Kz C s):∀j:Nat,j<4->Kz C (bD X i s j):=fun j a=>by
 by_cases e:j=i;grind[cQ];rw[bO e];exact h.Bc j a
def Bv (h:sV C H X V N) (b:(i:Int)<C.aB):∀j:Nat,C.aB<=(j:Int)->bD X i s j=jR.kD:=fun j a=>by
 rw[bO FA];exact h.kD j a
theorem sV.U3 (h:sV C H X V (n::N)) (hC:C.Ok) (hk:8<=n.kind/\n.kind<=11):
  ∃t out,fP C n.core (X n.core.toNat) n=(t,out,0)/\sV C H (bD X n.core.toNat t) V (out++N)/\(∀x∈out,x.aI=n.aI/\PK x.kind):=by
 have hb:=h.nb n FF<|.inr hk
 obtain⟨α,β⟩:=sV.i4 hC hb.1
 obtain⟨i,g,j⟩:∃i:Nat,i<4/\n.core=(i:Int):=FB
 obtain⟨k,a,b⟩:∃k:Nat,k<C.aF/\n.aI=(k:Int):=⟨n.aI.toNat,FA,FA⟩
 have e0:n.core.toNat=i:=FA
 rw[e0,j]
 have z:=h.aI k a
 rw[Rw b<|.inr hk] at z
 have E:∀l,l≠k->H5 l N=H5 l (n::N):=fun l e=>(Ol FA).symm
 have q:∀x∈N,x∈n::N:=FB
 have K:∀{t:jR} {out:IA} {e:Int},(n.kind=8->1<=n.state/\n.state<=4)->fP C (i:Int) (X i) n=(t,out,e)->iJ C t:=fun hv e=>by
  have:=Wr (core:=(i:Int)) hv<|h.yK i g;grind
 have Z:rY C X k i=dT C.aY.toNat _ k:=rfl
 rcases(by omega:n.kind=8\/n.kind=9\/n.kind=10\/n.kind=11) with k8|k9|D|w
 .have o:=z.cG k8 g j rfl;obtain⟨t,f,B,p,R,T⟩:=R7 (core:=(i:Int)) k8 b a (h.yK i g) (h.Bc i g) o.1.1 FA;refine⟨t,_,f,h.jB a ?_ FB FB (fun l e=>yD<|R l e) (fun x F=>?_) E q (xL h FB) (xU h T)<|Bv h FA,fun x F=>by grind[List.mem_singleton,PK]⟩
  .rw[Dy,p,b];exact o.2
  .rw[aV.1 F];exact⟨b,.inl FB,FB⟩
 .have o:=z.aYb k9 g j;obtain⟨f,B,p⟩:=aBu (core:=(i:Int)) k9 b a o.1;refine⟨_,_,f,h.jB a ?_ FB FB (fun l e=>yD<|p l e) FB E q (xL h FB) (xU h ⟨FB,(h.Bc i g).gl,(h.Bc i g).bd⟩)<|Bv h FA,FB⟩;simp_all[Dy]
 .have o:=z.aR5 (gd':=(0,0)) D g j rfl;obtain⟨f,B,p⟩:=ga (core:=(i:Int)) D b a o.1;refine⟨_,_,f,h.jB a ?_ FB FB (fun l e=>yD<|p l e) FB E q (xL h FB) (xU h ⟨(h.Bc i g).al,FB,(h.Bc i g).bd⟩)<|Bv h FA,FB⟩;simp_all[Dy]
 .obtain⟨_,_,_,Y,W,hw⟩:=z.aQj w g j;obtain⟨t,y,f,ea,eb,ec,ed,ee,P,I,u,U,O,A⟩:=qz (core:=(i:Int)) w b a (h.yK i g) (h.Bc i g) W hw;refine⟨t,_,f,h.jB a ?_ FB FB (fun l e=>yD<|A l e) (fun x F=>?_) E q (xL h FB) (xU h P)<|Bv h FA,fun x F=>by grind[List.mem_singleton,PK]⟩
  .rw[Dy];have J:HH k (H k).1 (rY C X k) (n::H5 k N) i=if(rY C X k i).st≠0 then(rY C X k i).st else(rY C X k i).gs:=by
    unfold HH at Y ⊢;by_cases e:(rY C X k i).st=0;rw[(Wq Y e).2.2,bA0 FB];unfold F5;grind
   have v:=I.2.2.2.2.2 _ _ J rfl
   exact z.aQl w g j u U O ⟨I.1,I.2.1,I.2.2.1,v.1,v.2.1,v.2.2⟩
  grind[List.mem_singleton,PK]
theorem sV.A3 (h:sV C H X V N) (hc:(rY C X k i).qO=true\/(rY C X k i).gi=true\/(rY C X k i).st≠0):(i:Int)<C.aB:=by
 apply gg;intro e;have:rY C X k i=⟨0,(0,0),false,false,false,0,(0,0)⟩:=by show dT _ _ k=_;rw[h.kD i FA,aH0]
 grind
theorem sV.df (h:sV C H X V N) (p:k<C.aF) {x:aG} (g:x∈(H k).1.aH) (q:x.kind≠0):0<=x.core/\x.core<C.aB:=by
 have f:=h.aI k p;have b:=f.jA.aH x g;obtain⟨i,j,a,_⟩:=jT b.2.1;refine⟨b.2.1.1,?_⟩;rw[a];rcases(by omega:x.kind=1\/x.kind=2\/x.kind=3) with e|e|e;have:=gS g e a b.1;have o:=f.t1 i j;exact h.A3 (k:=k) FB;have:=gS g e a b.1;have o:=f.t1 i j;exact h.A3 (k:=k) FB;have:=gS g e a b.1;have o:=f.t2 i j;exact h.A3 (k:=k) FB
def sV.aRg (h:sV C H X V N) (f:k<C.aF) (b:i<4) (a:HH k (H k).1 (rY C X k) (H5 k N) i≠0):(i:Int)<C.aB:=by
 by_cases e:(rY C X k i).st=0;exact h.A3 (k:=k)<|.inr<|.inl (Wq a e).1;exact h.A3 (k:=k)<|.inr<|.inr e
theorem H6 {r:bP} {aI:Int}:∀y∈(r.dZ aI d).2,y.kind=8/\y.core=r.aX.core/\y.aI=aI:=by
 intro y a;unfold bP.dZ at a;split at a;rw[aV.1 a];exact⟨rfl,rfl,rfl⟩;split at a<;>(rw[aV.1 a];exact⟨rfl,rfl,rfl⟩)
theorem Es {r:bP}:(r.dE n).aX=r.aX:=by
 unfold bP.dE;split;rfl;split<;>split<;>rfl
theorem Oo {r:bP} {m:Ln} {aI:Int}:∀y∈(iN.nI (r,m) aI n).2,y.kind=8/\y.core=r.aX.core/\y.aI=aI/\r.aX.kind≠0:=by
 grind[iN.nI,bP.rest,H6,Es]
theorem Jt {aI:Int}:∀y∈eR aI st S,y.kind=11/\y.aI=aI/\∃a∈S,y.core=(a:Int):=by
 grind[eR]
theorem Py {r:bP} {a:Nat} (h:a∈r.iV x):a<4/\(r.sh a=true\/r.owner=(a:Int)):=by
 grind[tT,bP.lY]
theorem Xe {r:bP} {aI:Int} {m:Ln} (u:n.kind=0\/n.kind=1\/n.kind=2\/n.kind=3) (v: -1<=r.owner/\r.owner<4):∀y∈(bP.eX r aI m n j).2,y.aI=aI/\(8<=y.kind/\y.kind<=11)/\((y.core=n.core/\n.kind≠0)\/∃a:Nat,a<4/\y.core=(a:Int)/\(r.sh a=true\/r.owner=(a:Int))):=by
 intro y b;unfold bP.eX at b;by_cases p:n.kind=3;rw[bA1 p] at b;rw[aV.1 b];exact⟨rfl,⟨show(8:Int)<=10 by omega,show(10:Int)<=11 by omega⟩,.inl ⟨rfl,FA⟩⟩;rw[bA0 p] at b;by_cases f:n.kind=1\/n.kind=2;rw[bA1 f] at b;split at b;unfold bP.get at b;dsimp only at b;have gr:∀{i:bP} {d:Ln},i.aX=n->y∈(i.dZ aI d).2->y.aI=aI/\(8<=y.kind/\y.kind<=11)/\((y.core=n.core/\n.kind≠0)\/∃a:Nat,a<4/\y.core=(a:Int)/\(r.sh a=true\/r.owner=(a:Int))):=fun {i d} e b=>by
  grind[H6]
 split at b;unfold bP.Ky at b;split at b;obtain⟨q,k,a,g,o⟩:=Jt y b;have:=Py g;exact⟨k,FA,.inr ⟨a,this.1,o,this.2⟩⟩;exact gr rfl b;unfold bP.Jv at b;have t:((r.iM n (j n.bA).1).jZ).owner=r.owner\/((r.iM n (j n.bA).1).jZ).owner= -1:=by
  unfold bP.jZ;split;grind;exact .inl rfl
 split at b;grind[Jt];refine gr ?_ b;unfold bP.jZ;split<;>rfl;rw[aV.1 b];exact⟨rfl,⟨show(8:Int)<=9 by omega,show(9:Int)<=11 by omega⟩,.inl ⟨rfl,FA⟩⟩;rw[bA0 f] at b;split at b;cases b;obtain⟨q,k,a,g,o⟩:=Jt y b;have:=Py g;grind
theorem sV.aL1 (h:sV C H X V (n::N)) (hC:C.Ok) (v:1<=n.kind/\n.kind<=5):
  ∃a out,eW C H n=(a,out,0)/\sV C a X V (out++N)/\(∀x∈out,x.aI=n.aI/\PK x.kind)/\(∀l:Nat,(l:Int)≠n.aI->a l=H l):=by
 have u:=h.nb n FF<|.inl v
 obtain⟨F,I⟩:=sV.i4 hC u.1
 obtain⟨i,E,p⟩:∃i:Nat,i<4/\n.core=(i:Int):=FB
 obtain⟨k,g,f⟩:∃k:Nat,k<C.aF/\n.aI=(k:Int):=⟨n.aI.toNat,FA,FA⟩
 have A:n.aI.toNat=k:=FA
 have b:=h.aI k g
 rw[Rw f<|.inl v] at b
 have J:eW C H n=(bD H k (iN.take (H k) k n).1,(iN.take (H k) k n).2):=by
  unfold eW;rw[bA0 GA,bA1 ⟨u.1,FV⟩,A,f]
 have done:∀(j:iN) (out:IA),iN.take _ k n=(j,out,0)->gB k j.1 j.2 _ _ _->(∀y∈out,y.aI=(k:Int)/\PK y.kind/\0<=y.core/\y.core<C.aB)->
   ∃a out,eW C H n=(a,out,0)/\sV C a X V (out++N)/\(∀x∈out,x.aI=n.aI/\PK x.kind)/\(∀l:Nat,(l:Int)≠n.aI->a l=H l):=fun j out e o hA=>by
  rw[J,e]
  refine⟨_,_,rfl,h.jB g ?_ (fun l e2=>bO e2) (fun _ _=>rfl) (fun _ _=>rfl) hA (fun l e=>(Ol FA).symm) (FB) h.yK h.Bc h.kD,fun x w=>⟨by rw[(hA x w).1,f],(hA x w).2.1⟩,fun l e2=>bO FA⟩
  rw[cQ];exact o
 by_cases O:n.kind=4
 .obtain⟨q,t,B⟩:=b.aFv O;refine done ((H k).1.kW,(H k).2) [] ?_ B FB;unfold iN.take;grind
 .by_cases z:n.kind=5
  .obtain⟨q,t⟩:=b.nI z;refine done (iN.nI (H k) k n).1 (iN.nI (H k) k n).2 ?_ t (fun y K=>?_)
   .unfold iN.take;grind
   .obtain⟨U,W,P,Y⟩:=Oo y K;obtain⟨_,T,D,_,_⟩:=b.xq z E p;refine⟨P,GZ,?_⟩;have R:=b.jA.core;have F5:By (H k).1 (H k).1.aX.core.toNat=1:=by unfold By;rw[bA1 FB]
    have q:=b.t1 (H k).1.aX.core.toNat FA
    have:=h.A3 (i:=(H k).1.aX.core.toNat) (k:=k) FB
    omega
  .refine done ((H k).1.lF n,(H k).2) [] ?_ (b.aRs FA) FB;grind[iN.take]
theorem sV.D5 (h:sV C H X V N) {l:Int}:
  ∃u out e,eO C H l j=(u,out,e)/\sV C u X V (out++N)/\(∀x∈out,x.aI=l/\PK x.kind)/\(∀k:Nat,(k:Int)≠l->u k=H k):=by
 unfold eO
 by_cases E:C.kG l
 .rw[bA1 E];obtain⟨k,f,v⟩:∃k:Nat,k<C.aF/\l=(k:Int):=⟨l.toNat,FV,FV⟩;subst v;rw[aM];have g:=h.aI k f;have qE:bD H k (H k)=H:=by funext i;unfold bD;grind
  unfold iN.dK
  by_cases o:(H k).1.busy=true
  .grind
  .rw[bA0 o];have o:(H k).1.busy=false:=by simpa using o
   cases hw:(H k).1.aH with
   |nil=>grind[bO]
   |cons n w=>
    have D:=g.eX (j:=j) o hw
    have b:=Xe (r:=(H k).1.next w) (aI:=k) (m:=(H k).2) (j:=j) (g.jA.aH n FB).2.2 g.jA.owner
    obtain⟨O,K,_⟩:=g.Qk o
    refine⟨_,_,_,rfl,h.jB f ?_ (fun l e2=>bO e2) FB FB (fun y F=>?_) FB FB h.yK h.Bc h.kD,fun x A=>⟨(b x A).1,.inr (b x A).2.1⟩,fun i e=>bO FA⟩
    .grind[cQ]
    .obtain⟨I,J,t⟩:=b y F;refine⟨I,.inr J,?_⟩;rcases t with⟨t,z⟩|⟨a,q,t,z⟩
     .rw[t];exact h.df f FB z
     .have p:=g.c1 a q (by have:=g.t3 a q;grind[hM]) (by have:=g.t4 a q;grind[Ce]);have B:HH k (H k).1 (rY C X k) (H5 k N) a≠0:=by
       rcases z with e|e;have:=p.1.2 e;omega;have:=p.2.2 e;omega
      have:=h.aRg f q B
      omega
 grind
theorem sV.Eu (h:sV C H X V N) {l:Int}:sV C (jS C H l).1 X V N:=by
 unfold jS;by_cases e:C.kG l;rw[bA1 e];obtain⟨k,a,b⟩:∃k:Nat,k<C.aF/\l=(k:Int):=⟨l.toNat,FV,FV⟩;subst b;refine h.jB (A:=[]) a ?_ (fun l e2=>bO e2) FB FB FB FB FB h.yK h.Bc h.kD;show gB k (bD H k _ k).1 (bD H k _ k).2 _ _ _;rw[cQ];exact(h.aI k a).aLa;grind
def sV.aKy (h:sV C H X V N) (b:i<4) (e:(i:Int)<C.aB) {l g:Int}:sV C H (bD X i<|pH C (X i) l a g) V N:=
 ⟨fun k f=>by rw[yD<|aOq<|h.yK i b];exact h.aI k f,xL h<|Iq<|h.yK i b,xU h<|aBl (h.yK i b)<|h.Bc i b,Bv h e,h.nb⟩
theorem sV.aU4 (h:sV C H X V N) (b:i<4) (g:(i:Int)<C.aB) {p:Int} (o:tD C (X i).S k a p true=0):
  sV C H (bD X i<|mU C (X i) k a p v) (bD V k<|aKn (V k) a v) N:=by
 have f:k<C.aF:=by have:=(wV o).1;omega
 obtain⟨q,t⟩:=aJd (v:=v) (h.yK i b) o
 have j:=h.aI k f
 have u:(rY C X k i).d=V k:=by
  have w:(rY C X k i).st≠0:=FB
  have:=j.c3 i b (by unfold HH F5;grind);unfold yU at this;grind
 refine h.jB (A:=[]) f ?_ FB (fun l e2=>bO e2) (fun l e=>yD<|tk FA) FB FB FB (xL h<|U0<|h.yK i b) (xU h<|qe (h.yK i b)<|h.Bc i b)<|Bv h g
 rw[cQ,Dy,t]
 rw[u]
 exact j.aXb b q
theorem sV.value (h:sV C H X V N) (b:i<4) (f:k<C.aF) (a:(bJ C.aY.toNat (X i).S k).2=0):(bJ C.aY.toNat (X i).S k).1.d=V k:=by
 have g:(rY C X k i).st≠0:=by
  show(dT C.aY.toNat _ k).st≠0;rw[Jc,bA1 a];have:=uS (h.yK i b).aY a;omega
 have:=(h.aI k f).c3 i b (by unfold HH F5;grind);unfold yU at this;have e:(rY C X k i).d=(bJ C.aY.toNat (X i).S k).1.d:=by show(dT C.aY.toNat _ k).d=_;rw[aNx,bA1 a]
 grind
theorem sV.aP9 (h:sV C H X V N) (j:i<4) (o:(i:Int)<C.aB) {w:Int} {wr:Bool} (b:k<C.aF) (a:(X i).pO=false) (c3:¬((X i).uH=true/\(X i).gl=k))
  (B:¬((bJ C.aY.toNat (X i).S k).2=0/\rR (bJ C.aY.toNat (X i).S k).1.st wr=true)) (p:(bJ C.aY.toNat (X i).S k).2=0\/((X i).S<|cT C.aY.toNat k).length<C.ways.toNat):
  sV C H (bD X i {X i with al:=(k:Int),aw:=wr,pO:=true}) V (⟨if wr then 2 else 1,i,k,w,0,0,0,false,0⟩::N):=by
 have f:=h.yK i j
 have t:=h.Bc i j
 have g:(rY C X k i).gi=false:=by
  show(dT _ _ k).gi=_;unfold dT;simp only[Bool.and_eq_false_iff,BM];by_cases e:(X i).uH=true;grind;grind
 have q:if wr=true then(rY C X k i).st≠2/\(rY C X k i).st≠4 else(rY C X k i).st=0:=by
  have u:(rY C X k i).st=if(bJ C.aY.toNat _ k).2=0 then(bJ C.aY.toNat _ k).1.st else 0:=rfl
  rw[u];by_cases z:(bJ C.aY.toNat (X i).S k).2=0;have v:=uS f.aY z;grind[rR,Ch,P2];grind
 refine h.jB (A:=[_]) b ?_ FB FB (fun l e=>?_) (fun y D=>?_) FB FB (xL h ⟨f.aY,f.vL,f.pl⟩) (xU h ⟨FB,t.gl,t.bd⟩)<|Bv h o
 .rw[Dy];have e2:dT C.aY.toNat {(X i) with al:=(k:Int),aw:=wr,pO:=true} k={dT C.aY.toNat (X i) k with qO:=true,aw:=wr}:=by unfold dT;simp
  rw[e2]
  exact(h.aI k b).aP9 j (by show(dT _ _ k).qO=_;unfold dT;rw[a];rfl) g q FB
 .apply yD;unfold dT;have:decide ((k:Int)=(l:Int))=false:=FB;grind
 grind[List.mem_singleton,PK]
theorem sV.xN (h:sV C H X V N) (q:i<4) (t:(i:Int)<C.aB) {x:vU} (b:(X i).pO=false) (z:(X i).uH=false) (w:bJ C.aY.toNat (X i).S v=(x,0)):
  sV C H (bD X i {X i with S:=jN C.aY.toNat (X i).S v,gl:=v,gc:=x,uH:=true}) V (⟨3,i,v,x.w,0,x.d.1,x.d.2,qK x.st,0⟩::N):=by
 have g:=h.yK i q
 have B:=h.Bc i q
 have a:(bJ C.aY.toNat (X i).S v).2=0:=by rw[w]
 have E:=(tL a).2
 have J:=B.bd v a
 have F:=uS g.aY a
 obtain⟨k,f,u⟩:∃k:Nat,k<C.aF/\v=(k:Int):=⟨v.toNat,FA,FA⟩
 subst u
 have o:(rY C X k i).st=x.st:=by show(dT _ _ k).st=_;rw[Jc,bA1 a,w]
 have D:(rY C X k i).d=x.d:=by show(dT _ _ k).d=_;rw[aNx,bA1 a,w]
 have p:iJ C {X i with S:=jN C.aY.toNat (X i).S (k:Int),gl:=(k:Int),gc:=x,uH:=true}:=by
  have g1:=wS (n:=C.aY.toNat) (no:=(k:Int)) g.aY;have g2:=Mw (no:=(k:Int)) g.pl;refine nZ.mk g1 (fun _=>?_) g2;grind
 refine h.jB (A:=[_]) f ?_ FB FB (fun l e=>?_) (fun y K=>?_) FB FB (xL h p) (xU h ⟨FB,FB,fun j I=>?_⟩)<|Bv h t
 .rw[Dy];have e2:dT C.aY.toNat {(X i) with S:=jN C.aY.toNat (X i).S (k:Int),gl:=(k:Int),gc:=x,uH:=true} k=⟨0,(0,0),false,false,true,(rY C X k i).st,(rY C X k i).d⟩:=by
   rw[o,D];have:=Ix (n:=C.aY.toNat) g.aY E;unfold dT;simp[this,b]
  rw[e2]
  exact(h.aI k f).xN q (by show(dT _ _ k).qO=_;unfold dT;rw[b];rfl) FB FB (.inr trivial)
 .apply yD;grind[dT,Int,nF]
 .grind[List.mem_singleton,PK]
 .by_cases e2:j=(k:Int)
  .omega
  .exact B.bd j (by simp_all[l6,Prod.snd,nF])
theorem sV.aUv (h:sV C H X V N) (hC:C.Ok) (p:i<4) (b:(i:Int)<C.aB) {l w:Int} {wr:Bool}:
  ∃f out e,fV C i (X i) l w wr=(f,out,e)/\sV C H (bD X i f) V (out++N)/\(e≠0->f=X i/\out=[])/\∀x∈out,PK x.kind:=by
 have I:=h.yK i p
 have T:=h.Bc i p
 have U:=(sK hC).2.2.1
 have qE:∀e:Int,e≠0->∃f out F,((X i,[],e):jR×IA×Int)=(f,out,F)/\sV C H (bD X i f) V (out++N)/\(F≠0->f=X i/\out=[])/\∀x∈out,PK x.kind:=fun e P=>by
  refine⟨_,_,_,rfl,?_,FB,FB⟩;have:bD X i (X i)=X:=by funext j;unfold bD;grind
  grind
 unfold fV
 by_cases z:vH C l=false
 .simp_all
 rw[bA0 z]
 by_cases c2:(X i).pO=true
 .simp_all
 rw[bA0 c2]
 by_cases c3:(X i).uH=true/\(X i).gl=l
 .simp_all
 rw[bA0 c3]
 by_cases E:(bJ C.aY.toNat (X i).S l).2=0/\rR (bJ C.aY.toNat (X i).S l).1.st wr=true
 .simp_all
 rw[bA0 E]
 have R:0<=l/\l<C.aF:=by unfold vH at z;simpa using z
 have a:(X i).pO=false:=by simpa using c2
 obtain⟨k,q,B⟩:∃k:Nat,k<C.aF/\l=(k:Int):=⟨l.toNat,FA,FA⟩
 subst B
 unfold zZ
 cases hv:kU C.aY.toNat C.ways.toNat (X i).S k with
 |none=>
  refine⟨_,_,_,rfl,?_,FA,fun x K=>?_⟩
  rotate_left
  .grind[List.mem_singleton,PK]
  refine h.aP9 p b q a c3 E ?_
  unfold kU at hv
  cases hge:Go.Ct.get (k:Int) ((X i).S<|cT C.aY.toNat k) with
  |some x=>grind[bJ]
  |none=>
   grind
 |some v=>
  unfold kU at hv
  cases hge:Go.Ct.get (k:Int) ((X i).S<|cT C.aY.toNat k) with
  |some x=>grind
  |none=>
   rw[hge] at hv
   dsimp only at hv
   split at hv
   .cases hv
   have u:=I.pl _ v<|hX hv
   have y:bJ C.aY.toNat (X i).S v.1=(v.2,0):=by
    unfold bJ;rw[aaa,u.2];cases hL:(X i).S _ with
    |nil=>grind
    |cons t L=>
     grind[Go.Ct.get]
   dsimp only
   by_cases c5:(X i).uH=true
   .simp_all
   rw[bA0 c5,y,bA0 FF]
   refine⟨_,_,_,rfl,?_,FA,fun x K=>?_⟩
   rotate_left
   .grind[PK,List.mem_singleton]
   have o:(X i).uH=false:=by simpa using c5
   have D:v.1≠(k:Int):=fun e=>by
    have:Go.Ct.get (k:Int) ((X i).S<|cT C.aY.toNat k)=some v.2:=by
     have:=(tL<|by rw[y]).1;grind
    grind
   have O:(bJ C.aY.toNat _ k)=bJ C.aY.toNat (X i).S k:=nF fun e=>D e.symm
   have g:=Qu (by rw[y])
   rw[u.2] at g
   have A:=(h.xN p b a o y).aP9 (w:=w) (wr:=wr) p b q (by grind[cQ]) (by rw[cQ];grind) (by rw[cQ];grind)
    (by rw[cQ];right;exact l7 g (I.aY _).len)
   rw[cQ] at A
   have J:∀s1 s2:jR,bD (bD X i s1) i s2=bD X i s2:=fun s1 s2=>by
    grind[cQ,bO]
   rw[J] at A
   exact A.cH FB
end Go.Pc
end
