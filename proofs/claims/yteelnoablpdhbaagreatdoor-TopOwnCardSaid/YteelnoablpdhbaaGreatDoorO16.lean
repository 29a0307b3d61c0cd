/- A part of the proof. -/
import Derived.Test.YteelnoablpdhbaaGreatDoorO15
import Derived.Test.YteelnoablpdhbaaGreatDoorO9
import Derived.Test.YteelnoablpdhbaaGreatDoorO14
import Derived.Test.YteelnoablpdhbaaGreatDoorO8
set_option linter.all false
set_option maxRecDepth 100000
open Go Go.Ab
variable {L L' M:HL} {c p q:Nat} {Q:Value->AH->Prop} {g:Int}
section
attribute [local irreducible] bQ Br sA vD vT F4 pC yQ nJ Uh iZ pV tD sH rQ pG vX Sn Rx R8 Rz R0 Xm mQ qJ kH jX Ao Jw nA Qv Ub B0 Cl Cx Xf xZ uP mK gY dD cQ
namespace Go.Proofs.Z.C
open Go.Hm Go.Ct
section
def Cn (k:Int) (f:FuncId):EK:=[I k,.func (.func f) #[] #[]]
def Pd:EK:=Cn 8 317++Cn 9 318++Cn 10 319++Cn 11 320
variable {G:Bg} {h:AH} {C:bT} {core:Int} {s:iJ} {n:aI}
def aIl (hC:C.Ok) {k:Int} {f:FuncId} {r:Tk} (w:Ob G 0 fO) (b:Hs G h (aG q 0 (Cn k f)::aG p 0 n.enc::jP G c C core s::L))
  (g:iR Pr f=true) (y:yJ C n.bA=false->r=(s,[],10)) (v:yJ C n.bA=true->∀h L,Hs G h (jP G c C core s::L)->∀Q,vd G c C core L Q r->ID f [IE c,.agg ⟨n.enc⟩] h Q) (j:vd G c C core L Q r):
  Dd 180 5 [] Q [IE c,IE p,IE q] h:=by
 refine bW<|aA<|aD b rfl<|vJ (core:=core) hC w b fun h b=>cG<|eI<|dI (fun d=>?_) fun d=>?_
 .refine aA (aD b rfl<|aX b ET (l:=n.enc) rfl rfl ?_);refine sR g<|v d h (aG q 0 (Cn k f)::aG p 0 n.enc::L) b.to _ fun o t u b=>aH rfl<|aH rfl<|j o t u b.to
 .exact vM j (a:=s) (e:=10) (y d) b.to
theorem Jb (hC:C.Ok) (hb:Bd s) (w:Sts C.bL.toNat s) (A:Ob G 0 fO) (B:Ob G 6 mL) (d:Hs G h L) [m:dH (jP G c C core) L s L'] (r:vd G c C core L' Q (jU C core s n)):
  ID 180 [IE c,.agg ⟨n.enc⟩] h Q:=by
 have d:=m.of d
 refine cW<|dY d fun p h d=>cZ<|cF<|bW<|cW ?_
 refine aM (c:=Cn 8 317) rfl<|aM (c:=Cn 9 318) rfl<|aM (c:=Cn 10 319) rfl<|aM (c:=Cn 11 320) rfl<|aM (c:=Pd) rfl<|dC d rfl rfl rfl ?_
 intro a h d
 have⟨b,o,ha,d⟩:=d.gF ET
 cases ha
 apply cE
 have y:yJ C n.bA=true->0<=n.bA:=fun e=>(eo e).1
 have step:∀(i:Nat) (z:i<4) (k:Int) (f:FuncId) (h:AH) (M:HL),(Pd.drop<|i*2).take 2=Cn k f->iR Pr f=true->Hs G h (aG b o Pd::aG p 0 n.enc::jP G c C core s::L')->
   (n.kind=k->((yJ C n.bA=false->jU C core s n=(s,[],10))/\(yJ C n.bA=true->∀h L,Hs G h (jP G c C core s::L)->∀Q,vd G c C core L Q (jU C core s n)->ID f [IE c,.agg ⟨n.enc⟩] h Q)))->
   (n.kind≠k->∀h,Hs G h (aG b o Pd::aG p 0 n.enc::jP G c C core s::L')->Dd 180 2 [] Q [IE c,IE p,.slice (some ⟨b,o,none⟩) 4 4,I 4,I ((i+1:Nat):Int)] h)->
   Dd 180 2 [] Q [IE c,IE p,.slice (some ⟨b,o,none⟩) 4 4,I 4,I (i:Int)] h:=by
  intro i z k f h M J u d j v
  refine bW<|aQ<|aad<|bW<|dR z<|Oj d ET (l:=Cn k f) ES rfl<|bX d ?_
  intro q h d
  refine an d ?_
  intro h d
  refine aA<|aD d rfl<|aA<|aD d rfl<|bK<|bC (fun t=>bW<|aac ?_) fun t=>?_
  .show Dd _ _ _ _ _ _;simpa using(v ER h d.to)
  .have t:n.kind=k:=by
    have:k=n.kind:=by simpa using t
    exact this.symm
   exact aIl (k:=k) hC A (show Hs G h _ from d.to) u (j t).1 (j t).2 r
 have d:Hs G h (aG b o Pd::aG p 0 n.enc::jP G c C core s::L'):=d.to
 refine step 0 ET 8 317 h [] rfl EU d (fun e=>⟨fun g=>by simp[jU,e,g],fun g h L d Q r=>Jg hC hb (y g) d HH⟩) fun D h d=>(step 1 ET 9 318 h [] rfl EU d (fun e=>⟨fun g=>by simp[jU,e,g],fun g h L d Q r=>aKx d HH⟩) fun E h d=>?_)
 refine step 2 ET 10 319 h [] rfl EU d (fun e=>⟨fun g=>by simp[jU,e,g],fun g h L d Q r=>aAf d HH⟩) fun F h d=>(step 3 ET 11 320 h [] rfl EU d (fun e=>⟨fun g=>by simp[jU,e,g],fun g h L d Q r=>H6 hC hb w (y g) B d HH⟩) fun H h d=>?_)
 exact bW<|aQ<|aaa<|vM r (a:=s) HH d.to
def aDt (a:Hs G h L) [m:dH (jP G c C core) L s L'] (d:∀b,Hs G b (jP G c C core s::L')->Q (.tuple ⟨[I s.al,.bool s.aw,.bool s.pY]⟩) b):ID 69 [IE c] h Q:=by
 have⟨t,a⟩:=mM<|m.of a;refine cW<|cZ<|cF<|bD a ?_;intro e h a;exact(aB<|aA<|aA<|aD a rfl<|aB<|aA<|aA<|aD a rfl<|aB<|aA<|aA<|aD a rfl<|d _ (dG c t C core s a rfl rfl).to)
def sc (hC:C.Ok) (hb:Bd s) (a:Hs G h L) [m:dH (jP G c C core) L s L'] (f:∀d e,Hs G e (jP G d C core s::jP G c C core s::L')->Q (IE d) e):ID 179 [IE c] h Q:=by
 have⟨t,a⟩:=mM<|m.of a;refine cW<|cZ<|cF<|bW<|aB<|aX a ET (l:=mW t C core s) rfl rfl<|bX a fun d h a=>an a ?_;intro h a;refine aB<|aA<|aD a rfl<|aLa (ways:=C.ways.toNat) (pW hC).1 (pW hC).2.1 hb a fun t2 h a=>(aA<|ax a ?_);intro h a;have a:=a.sg (b:=d) (o:=0) (c:=mW t2 C core s) rfl;exact f d h (dG c t C core s (dG d t2 C core s a rfl rfl) rfl rfl).to
def Xj (hC:C.Ok) (b:0<=core/\core<C.aE) (g:Ob G 0 fO) (a:Hs G h L) (f:∀c d,Hs G d (jP G c C core iJ.lK::L)->Q (.tuple ⟨[IE c,I 0]⟩) d):ID 46 [.agg ⟨C.enc⟩,I core] h Q:=by
 refine cW<|dY a fun p h a=>aX a ET (l:=C.enc) rfl rfl<|sD g a fun h a=>?_;have e:=hC;rw[bT.Ok] at e;rw[aXg hC];refine bK<|aaa<|bW<|aQ<|aaa<|aA<|aD a rfl<|eQ<|aaa<|bW ?_;refine aA<|aD a rfl<|aA<|aD a rfl<|af ER ER a fun t h a=>aH rfl<|aH rfl<|bK<|aaa<|aX a ET (l:=C.enc) rfl rfl<|aM (c:=mW t C core iJ.lK) rfl<|dY a ?_;intro q h a;exact f q h (dG q t C core iJ.lK a rfl rfl).to
end
variable {G:Bg} {h:AH} {C:bT} {core:Int} {s:iJ} {n:aI}
def aGq (hC:C.Ok) (d:kK C s) {l at':Int} (k:sP C s.S l at' g false=0) (u:Ob G 0 fO) (v:Ob G 6 mL) (a:Hs G h L) [m:dH (jP G c C core) L s L'] (f:∀j,Hs G j (jP G c C core (rR C s l at' g)::L')->Q (.tuple ⟨[I<|Mc.I3 C s l at',I 0]⟩) j):ID 172 [IE c,I l,I at',I g] h Q:=by
 have a:=m.of a;have q:=d.bd (pW hC).2.2.2;rw[rR] at f;refine cW<|Zr (c:=c) (core:=core) (s:=s) hC q u v a fun h a=>bK<|aaa ?_;rw[aXg k] at f;have⟨hl1,ha,hp,_⟩:=P7 k;have r:=Z8 d.bL hp;have⟨t,a⟩:=mM a;refine bW<|aB<|aA<|ai c a rfl<|G2 (t:=t) (ways:=C.ways.toNat) (n:=C.bL.toNat) (S:=s.S) hl1.1 (pW hC).1 q a fun h a=>aH rfl<|aH rfl<|bX a fun p h a=>an a ?_;intro h a;have e:=fun {h:AH} a=>(dG c t C core {s with S:=H7 C.bL.toNat C.ways.toNat s.S l} (G:=G) (h:=h) (L:=aG p 0 (cI C.bL.toNat s.S l).1.enc::iV G t C.ways.toNat C.bL.toNat (H7 C.bL.toNat C.ways.toNat s.S l)::aG c 0 (mW t C core s)::L') a rfl rfl);refine bK<|aaa<|aA ?_;rcases ha with rfl|rfl;exact fC ET ET<|ai p a rfl<|f _ (e a).to;exact fC ET ET<|ai p a rfl<|f _ (e a).to
def wx (hC:C.Ok) (d:kK C s) {l at' u v:Int} (y:sP C s.S l at' u true=0) (B:Ob G 0 fO) (z:Ob G 6 mL) (a:Hs G h L) [m:dH (jP G c C core) L s L'] (q:∀w,Hs G w (jP G c C core (jH C s l at' u v)::L')->Q (I 0) w):ID 173 [IE c,I l,I at',I u,I v] h Q:=by
 have a:=m.of a;have j:=d.bd (pW hC).2.2.2;rw[jH] at q;refine cW<|Zr (c:=c) (core:=core) (s:=s) hC j B z a fun h a=>bK<|aaa ?_;rw[aXg y] at q;have⟨hl1,ha,hp,hst⟩:=P7 y;have⟨t,a⟩:=mM a;refine bW<|aB<|aA<|ai c a rfl<|Jr (t:=t) (ways:=C.ways.toNat) (n:=C.bL.toNat) (S:=s.S) (pW hC).1 j a fun h a=>aH rfl<|aH rfl<|bX a ?_;intro p h a;refine an a fun h a=>bK<|aaa<|bW<|aA<|ai p a rfl<|aE3 z a hst<|aH rfl<|aH rfl<|aA<|ax (b:=p) (o:=0) a ?_;intro h a;refine bK<|aaa<|bW<|aA ?_;have e:∀{f:Bool} {h:AH},f=true->Hs G h (aG p 0 (zL C.bL.toNat s.S l at' v).enc::iV G t C.ways.toNat C.bL.toNat s.S::aG c 0 (mW t C core s)::L')->
   Uh f h 8 fun _ g=>bQ (pV<|IE c) fun v5=>bQ (iZ 0 v5) fun v6=>bQ (sA g v6) fun D=>bQ (vD g 4<|IE p) fun E=>ID 253 [D,I l,E] g fun v9 A=>Q v9 A:=by
  intro f h k a
  apply bD (hc:=k) a
  intro r h a
  refine aB<|aA<|aD (b:=c) a rfl<|aX a ET (l:=(zL C.bL.toNat s.S l at' v).enc) rfl rfl ?_
  refine Gx (ways:=C.ways.toNat) hl1.1 (pW hC).1 j a fun h a=>?_
  show Q _ _
  rw[du d.bL hp]
  exact q _ (dG c t C core {s with S:=(nM C.bL.toNat C.ways.toNat s.S l _).1} a rfl rfl).to
 rcases ha with rfl|rfl;exact fC ET ET<|ax a fun h a=>e EU<|(a.sg (b:=p) (o:=0) (c:=(zL C.bL.toNat s.S l 0 v).enc) rfl).to;exact fC ET ET<|ax a fun h a=>e EU<|(a.sg (b:=p) (o:=0) (c:=(zL C.bL.toNat s.S l 1 v).enc) rfl).to
end Go.Proofs.Z.C
end
variable {k:Value->Prop} {i n:Nat} {b:Prop} {e:Nat->Value}
namespace Go.Proofs.Z.N
open Go.Hm Go.Nt
section
def sC {g a:Nat} (d:i<n) (e:k (pt g (i*a) 0)):bQ (qJ n a (.pointer<|some ⟨g,0,none⟩)<|I i) k:=
 iN (b:=g) (o:=0) (j:=0) d (by simpa [pt] using e)
attribute [local irreducible] bQ Br sA vD vT F4 pC yQ nJ Uh iZ pV tD sH rQ pG vX Sn Rx R8 Rz R0 Xm mQ qJ kH jX Ao Jw nA Qv Ub B0 Cl Cx Xf xZ uP mK gY dD cQ
variable {G:Bg} {h:AH}
def De {k:Int} (b:Q (.bool<|decide<|Sq k) h):ID 267 [I k] h Q:=by
 refine cW<|eQ<|bC (fun a=>aQ ?_) fun a=>?_;show Q _ _;rwa [show decide _=decide (Sq k) from AV.2<|by unfold Sq;omega];show Q _ _;rwa [show false=decide (Sq k) from(ec<|by unfold Sq;omega).symm]
theorem aT8 {k:Int} (h:Sq k):∃n:Nat,k=(n:Int)/\1<=n/\n<14:=⟨k.toNat,by grind[Sq],by grind[Sq],by grind[Sq]⟩
def tn {k:Int} (d:Ob G 3 Bp) (g:Hs G h L) (b:Q (if Sq k then .tuple ⟨[I<|Tm k.toNat,I 0]⟩ else .tuple ⟨[I 0,I 15]⟩) h):ID 193 [I k] h Q:=by
 refine cW<|De<|cG<|eI<|bC (fun a=>?_) fun a=>?_;rw[aXg a] at b;obtain⟨n,rfl,f,e⟩:=aT8 a;refine sC e<|aA<|Cp g d (jb e) b;rwa [aXf a] at b
theorem G2 {n:aI} {f:Int} (g:1<=f/\f<=13) (b:Hs G h L) (a:∀d,Hs G d L->Q (I<|nX n f) d):ID 269 [.agg ⟨n.enc⟩,I f] h Q:=by
 refine cW<|dY b ?_;intro p h b;have a:=a h b.tail;rcases f13 g with rfl|rfl|rfl|rfl|rfl|rfl|rfl|rfl|rfl|rfl|rfl|rfl|rfl;all_goals
  repeat' first
   |refine bM ?_
   |refine bU ET ?_
   |refine aR ET ?_
   |refine bW ?_
   |refine bW ?_
   |refine bW ?_
   |refine bW ?_
   |refine bW ?_
   |refine bW ?_
   |refine bW ?_
   |refine bW ?_
   |refine bW ?_
   |refine bW ?_
   |refine bW ?_
   |refine bW ?_
   |refine aA ?_
   |refine fC ER ER ?_
   |apply aD b rfl
 all_goals first|exact a|skip
 refine dI (fun e=>?_) fun e=>?_;rw[nX] at a;show Q _ _;grind;rw[nX] at a;show Q _ _;grind
def aQe {n:aI} {f v:Int} (d:1<=f/\f<=13) (a:Hs G h (aG p 0 n.enc::L)) (e:∀b,Hs G b (aG p 0 (Mw n f v).enc::L)->Q (.tuple ⟨[]⟩) b):ID 271 [IE p,I f,I v] h Q:=by
 apply cW;rcases f13 d with rfl|rfl|rfl|rfl|rfl|rfl|rfl|rfl|rfl|rfl|rfl|rfl|rfl;all_goals
  repeat' first
   |refine bM ?_
   |refine bK ?_
   |refine bU ET ?_
   |refine aR ET ?_
   |refine bW ?_
   |refine bW ?_
   |refine bW ?_
   |refine bW ?_
   |refine bW ?_
   |refine bW ?_
   |refine bW ?_
   |refine bW ?_
   |refine bW ?_
   |refine bW ?_
   |refine bW ?_
   |refine aB ?_
   |apply aA
   |refine fC ER ER ?_
  refine ax a ?_
  intro h a
  exact e h a
theorem Pc {a:Prop} [Decidable a] [Decidable b] (d:a↔b) (e:Q (.bool<|decide b) h):Q (.bool<|decide a) h:=ES
theorem mg [Decidable b] (a:¬b) (d:Q (.bool<|decide b) h):Q (.bool false) h:=ES
theorem vE [Decidable b] (a:b) (d:Q (.bool<|decide b) h):Q (.bool true) h:=ES
def Wg {C:bT} (hC:C.Ok) {f v:Int} (k:1<=f/\f<=13) (o:Ob G 0 fO) (d:Hs G h L) (g:∀j,Hs G j L->Q (.bool<|decide<|Iz C f v) j):ID 270 [.agg ⟨C.enc⟩,I f,I v] h Q:=by
 refine cW<|dY d ?_;intro p h d;have a:=g h d.tail;unfold Iz at g a;rcases f13 k with rfl|rfl|rfl|rfl|rfl|rfl|rfl|rfl|rfl|rfl|rfl|rfl|rfl;all_goals
  repeat' first
   |refine bU ET ?_
   |refine aR ET ?_
   |apply bM
   |refine bW ?_
   |refine bW ?_
   |refine bW ?_
   |refine bW ?_
   |refine bW ?_
   |refine bW ?_
   |refine bW ?_
   |refine bW ?_
   |refine bW ?_
   |refine bW ?_
   |refine bW ?_
 all_goals simp only[Int.reduceEq,e9,c9,or_true,true_or,or_self,or_false,false_or,decide_true] at g a
 exact eQ<|bC (fun b=>aA<|aD d rfl<|aQ<|Pc ER a) fun b=>mg ER a;exact eQ<|bC (fun b=>aX d ET (l:=C.enc) rfl rfl<|qK hC o d fun h d=>aQ<|Pc ER<|g h d.tail) fun b=>mg ER a;exact eQ<|bC (fun b=>xY<|Pc ER a) fun b=>mg ER a;exact eQ<|bC (fun b=>xY<|Pc ER a) fun b=>mg ER a;exact eQ<|bC (fun b=>xY<|Pc ER a) fun b=>mg ER a;exact(bC (fun b=>vE ER a) fun b=>bM<|bC (fun e=>vE ER a) fun e=>bM<|Pc ER a);exact(bC (fun b=>vE ER a) fun e=>bM<|Pc ER a);exact a;exact a;exact(bC (fun b=>vE ER a) fun e=>bM<|Pc ER a);exact(bC (fun b=>vE ER a) fun e=>bM<|Pc ER a);exact eQ<|bC (fun b=>aQ<|Pc ER a) fun b=>mg ER a;exact eQ<|bC (fun b=>aA<|aD d rfl<|aQ<|Pc ER a) fun b=>mg ER a
end
theorem neN {a n:aI} (d:k (.bool<|decide<|a≠n)) {b:Bool} (hc:b=true:=by kernel_rfl):R0 b [0,0,0,0,0,0,0,1,0] .neq (.agg ⟨a.enc⟩) (.agg ⟨n.enc⟩) k:=by
 refine⟨hc,_,?_,d⟩;cases a;cases n;simp[Rz,tZ,Zg,vq,aI.enc];grind
attribute [local irreducible] bQ Br sA vD vT F4 pC yQ nJ Uh iZ pV tD sH rQ pG vX Sn Rx R8 Rz R0 Xm mQ qJ kH jX Ao Jw nA Qv Ub B0 Cl Cx Xf xZ uP mK gY dD cQ
variable {G:Bg} {h:AH}
variable {st:LoopState} {pd:Option Code}
def aNx {P:Program} {f:FuncId} {p:EM} {l d:Nat} {k:Option Code×AH->Prop} (q:Hs G h L) [m:rJ l L ⟨P,f,p,n,e,d,st,pd⟩ L'] (g:st≠.busy) (o:∀j,Hs G j L'->k (pd,j)):bQ (uP h l) k:=
 aEn (P:=P) (f:=f) (p:=p) (n:=n) (e:=e) (d:=d) (st:=st) (pd:=pd) (k:=fun a b=>k (a,b)) (show Hs G h (iI P f p n e d l (st,pd)::L') from m.of q) g o
theorem at7 {l:EL} (d:l.length=7) (a:i<7) (b:k (I<|l.getD i 0)):bQ (Qv 7 1 (.agg ⟨l.map I⟩)<|I i) k:=
 uh a ES b
def wm {k:Int} (a:Hs G h L) (d:∀p b,Hs G b (aG p 0 [I k]::L)->Q (.func (.func 324) #[] #[IE p]) b):ID 268 [I k] h Q:=by
 exact cW<|dY a fun p h a=>d p h a
theorem aDk (g:Ob G 3 Bp) (d:n<14):lh Pr K G 324 [] [IE p] (aG p 0 [I n]) ((Hw n).map fun f=>[I f]):=by
 intro l J y L h Q a t k o;refine cW (aD a rfl<|sC d<|aA<|jc a g (aA2 d) (by rw[js,te d]) (by grind[y8]) ?_);have loop:∀(f i:Nat) (h:AH),i+f=7->Hs G h (aG p 0 [I n]::l ((ws (aCk n) f i).map fun f=>[I f])::L)->Dd 324 1 [] Q [y,.agg ⟨(aCk n).map I⟩,I i] h:=by
  intro f;induction f with
  |zero=>
   intro i h q a;exact bW (aQ<|aaa<|k _ h a)
  |succ f u=>
   intro i h q a;rw[ws] at a;refine bW<|aQ<|aad<|bW<|at7 (te d) ER<|bM<|bC (fun e=>?_) fun e=>?_;rw[aXg e] at a;exact k _ h a;rw[aXf e] at a;refine(t _ _ h _ a.oN).mono fun v j r=>?_;rcases r with⟨rfl,b⟩|⟨rfl,b⟩;exact cG<|cF<|bW<|aac<|u (i+1) j ER b.oN;exact cG<|eV<|o _ j b.oN
 exact loop 7 0 h rfl a
def ckC (C:bT) (n:aI) (p2 p3 p5 p6 l d:Nat) (e:Nat->Value) (rest:HY) (fs:EL) (a:aI):HL:=
 [xG<|rest=fs.map fun f=>[I f],xG (∀f∈fs,1<=f/\f<=13),xG<|mB C n fs a=mB C n (Hw n.kind.toNat) (tI n.kind),iI Pr 192 (iM 1786) 41 e d l (.ready,none),aG p2 0 C.enc,aG p3 0 n.enc,aG p5 0 [.bool true],aG p6 0 a.enc]
def ckI (C:bT) (n:aI) (p2 p3 p5 p6 l d:Nat) (e:Nat->Value) (rest:HY):HP:=xC fun x:EL×aI=>sp<|ckC C n p2 p3 p5 p6 l d e rest x.1 x.2
def ckJ (C:bT) (n:aI) (p2 p3 p5 p6 l d:Nat) (e:Nat->Value):HP:=xC fun a:aI=>sp [xG<|(mB C n (Hw n.kind.toNat)<|tI n.kind).1=false,iI Pr 192 (iM 1786) 41 e d l (.done,some<|.exit 0),aG p2 0 C.enc,aG p3 0 n.enc,aG p5 0 [.bool false],aG p6 0 a.enc]
def F7 {C:bT} {n:aI} {p2 p3 p5 p6 l d:Nat} {rest:HY} {fs:EL} {a:aI} (b:rest=fs.map fun f=>[I f]) (g:∀f∈fs,1<=f/\f<=13) (j:mB C n fs a=mB C n (Hw n.kind.toNat) (tI n.kind))
  (k:Hs G h (sp [iI Pr 192 (iM 1786) 41 e d l (.ready,none),aG p2 0 C.enc,aG p3 0 n.enc,aG p5 0 [.bool true],aG p6 0 a.enc]::L)):Hs G h (ckI C n p2 p3 p5 p6 l d e rest::L):=
 Hs.tG (A:=fun x:EL×aI=>sp<|ckC C n p2 p3 p5 p6 l d e rest x.1 x.2) (fs,a) (Cu b<|Cu g<|Cu j k)
def Du {C:bT} {n:aI} {p2 p3 p5 p6 l d:Nat} {rest:HY} (b:Hs G h (ckI C n p2 p3 p5 p6 l d e rest::L)):∃g a,(rest=g.map fun f=>[I f])/\(∀f∈g,1<=f/\f<=13)/\mB C n g a=mB C n (Hw n.kind.toNat) (tI n.kind)/\
  Hs G h (iI Pr 192 (iM 1786) 41 e d l (.ready,none)::aG p2 0 C.enc::aG p3 0 n.enc::aG p5 0 [.bool true]::aG p6 0 a.enc::L):=by
 have⟨⟨g,a⟩,b⟩:=Hs.uI b
 have⟨h1,b⟩:=iU b
 have⟨h2,b⟩:=iU b
 have⟨h3,b⟩:=iU b
 exact⟨g,a,h1,h2,h3,b.dT⟩
theorem aNd {C:bT} {n:aI} (t:Ob G 3 Bp) (y:Ob G 0 fO) (b:Hs G h L) (j:∀g,Hs G g L->Q (I<|mZ C n) g):ID 192 [.agg ⟨C.enc⟩,.agg ⟨n.enc⟩] h Q:=by
 rw[mZ] at j;refine cW<|dY b ?_;intro B h b;refine dY b fun D h b=>aA<|aD b rfl<|De<|cG<|eI<|bC (fun k=>bW ?_) fun k=>kS ?_;rw[aXg k] at j;refine aX b ET (l:=C.enc) rfl rfl<|sD y b fun h b=>?_;by_cases hC:C.Ok;rw[aXg hC] at j ⊢;refine bK<|aaa<|bW<|bX b fun E h b=>an b ?_;intro h b;refine aA<|aD b rfl<|aM (c:=(tI n.kind).enc) rfl<|bX b fun F h b=>an b ?_;intro h b;obtain⟨m,z,J,q⟩:=aT8 k;refine aA<|aD b rfl ?_;rw[z];refine wm b fun p h b=>jM b fun d h b=>?_;intro e H;refine kY b fun l h b=>(pX EU ?_);have w:Hs G h (aG p 0 [I m]::ckI C n B D E F l d e ((Hw m).map fun f=>[I f])::mk d ()::L):=by
  refine Hs.oN (F7 (a:=tI n.kind) rfl (aK5 q) (by rw[z];rfl) ?_);exact b.to
 refine aDk t q _ (ckJ C n B D E F l d e) _ _ h _ w ?_ ?_ ?_;intro x rest h M b;have⟨o,a,k,h2,h3,hq⟩:=Du b;cases o with
 |nil=>cases k
 |cons f o=>
  obtain⟨rfl,rfl⟩:=k;have r:=h2 f ES;refine rW (qC hq) H<|gD hq fun h b=>?_;refine aX b ET (l:=n.enc) rfl rfl<|G2 r b fun h b=>(aX b ET (l:=C.enc) rfl rfl<|Wg hC r y b fun h b=>cG<|eI<|bC (fun A=>?_) fun A=>?_);refine aQe (n:=a) r (b.aN _) fun h b=>iE b fun h b=>(.inl ⟨rfl,F7 (a:=Mw a f<|nX n f) rfl ES ?_ b.to⟩);simp_all[mB,aXg];refine an b ?_;intro h b;refine iE b fun h b=> .inr ⟨rfl,Hs.tG a<|Cu ?_ b.to⟩;rw[<-h3,mB,aXf A]
 intro v g b;have⟨o,a,k,h2,h3,b⟩:=Du b.oN;cases o with
 |cons f o=>cases k
 |nil=>
  rw[mB] at h3;rw[<-h3] at j;refine kU b fun g b=>kW<|aD b rfl<|cG ?_;refine(cF<|aX b ET (l:=a.enc) rfl rfl<|aX b ET (l:=n.enc) rfl rfl<|neN<|bC (fun u=>?_) fun u=>?_);refine mH b fun g b=>kS ?_;have:=j g b.to;rwa [aXf ES] at this;refine mH b fun g b=>kS ?_;have:=j g b.to;rwa [aXg ⟨rfl,ES⟩] at this
 intro v g b;have⟨a,b⟩:=Hs.uI b.oN;have⟨k,b⟩:=iU b;have b:=b.dT;refine aNx b ET fun g b=>Kk rfl<|aD b rfl<|cG ?_;refine(eV<|mH b fun g b=>kS ?_);have:=j g b.to;rwa [aXf fun e=>ES] at this;rw[aXf hC] at j ⊢;refine bK<|aad<|kS<|j h b.to;rw[aXf k] at j;exact j h b.to
end Go.Proofs.Z.N
variable {c2 f j y:Nat} {l:List (Int×Int)} {v:Value} {a a2:EN} {cs:EK} {L2:HL} {w x:Int} {pl:Nat->Nat}
section
attribute [local irreducible] bQ Br sA vD vT F4 pC yQ nJ Uh iZ pV tD sH rQ pG vX Sn Rx R8 Rz R0 Xm mQ qJ kH jX Ao Jw nA Qv Ub B0 Cl Cx Xf xZ uP mK gY dD cQ
namespace Go.Proofs.Z
open Go.Hm Go.At Go.Mc
variable {s:lX}
section
instance:Fx dW 2:=⟨fun _=>rfl,fun _=>rfl⟩
def ixK (p:Int×Int->Bool):List (Int×Int)->Nat->Int
 |[],_=> -1
 |x::l,i=>if p x then(i:Int) else ixK p l (i+1)
theorem Rg {p:Int×Int->Bool}:∀{l:List (Int×Int)} {i:Nat},(ixK p l i= -1/\(∀x∈l,p x=false))\/∃j x,ixK p l i=((i+j:Nat):Int)/\l[j]?=some x/\p x=true/\∀y∈l.take j,p y=false
 |[],i=> .inl ⟨rfl,ES⟩
 |x::l,i=>by
  rw[ixK];split;rename_i e;exact .inr ⟨0,x,EV,rfl,e,ES⟩;rcases Rg (p:=p) (l:=l) (i:=i+1) with⟨a,b⟩|⟨j,y,a,b,d,f⟩;grind;refine .inr ⟨j+1,y,ES,ES,d,fun z g=>?_⟩;grind
def isG (g:Int) (x:Int×Int):Bool:=decide<|x.1=g
theorem E3:(ixK (isG g) l 0= -1/\fS l g=none)\/∃(j:Nat) (x:Int×Int),ixK (isG g) l 0=(j:Int)/\l[j]?=some x/\fS l g=some x.2:=by
 rcases Rg (p:=isG g) (l:=l) (i:=0) with⟨b,a⟩|⟨j,x,b,a,d,f⟩;grind[fS,List.find?_eq_none,isG];refine .inr ⟨j,x,ES,a,?_⟩;rw[fS];have:l.find? (fun x=>decide<|x.1=g)=some x:=by
  rw[CY];refine⟨d,_,l.drop<|j+1,?_,fun y k=>by have:=f y k;grind[isG]⟩;have⟨hj,e⟩:=eh.1 a;rw[<-e,<-k9 hj,wK]
 grind
variable {G:Bg} {h:AH} {C:bT}
def Km (C:bT) (s:lX) (a:EN) (c:Nat):EK:=[.bool s.eN,I s.cJ,I s.at',.bool s.nQ,I C.lI,I C.bB,.slice a s.cC.length c]
def mV (p:Nat) (C:bT) (s:lX):HP:=xC fun x:EN×Nat=>sp [aG p 0<|Km C s x.1 x.2,ls dW 2 226 x.1 x.2 s.cC]
def nO (b:Hs G h (mV p C s::L)):∃a c,Hs G h (aG p 0 (Km C s a c)::ls dW 2 226 a c s.cC::L):=by
 have⟨⟨a,c⟩,b⟩:=b.uI;exact⟨a,c,b.yO⟩
def eW (p:Nat) (C:bT) (s:lX) {b:HL} (f:Hs G h L) [m:dH (aG p 0) L cs b] [m2:dH (ls dW 2 226 a c) b l L2] (d:cs=Km C s a c) (e:l=s.cC):Hs G h (mV p C s::L2):=by
 subst d e;exact Hs.tG (a,c)<|Hs.kC<|f.cR<|m.cR.trans<|m2.cR.cons _
def aAr (hC:C.Ok) (a:Hs G h L) (d:∀p b,Hs G b (mV p C M7::L)->Q (.tuple ⟨[IE p,I 0]⟩) b):ID 47 [I C.lI,I C.bB] h Q:=by
 rw[bT.Ok] at hC;refine cW<|aQ<|aaa<|nU<|aaa<|aQ<|aaa<|nU<|aaa ?_;exact aM (c:=Km C M7 none 0) rfl<|dY a fun p h a=>d _ _<|eW p C M7 ((oI (enc:=dW) (e:=226) a)) rfl rfl
def Io (hb:l.length<=100) (j:Hs G h L) [m:dH (ls dW 2 226 a c) L l L']
  (g:∀b d f,Hs G f (ls dW 2 226 b d l::ls dW 2 226 a c l::L')->Q (.slice b l.length d) f):ID 82 [.slice a l.length c] h Q:=
 cW (Eu (e:=226) (show Hs G h (dJ 2 226 a c (l.length,eL dW l)::L') from m.of j) ER g)
def G1 (hb:s.cC.length<=100) (b:Hs G h L) [m:dH (mV p C) L s L'] (e:∀q d,Hs G d (mV q C s::mV p C s::L')->Q (IE q) d):ID 184 [IE p] h Q:=by
 have⟨a,c,b⟩:=nO<|m.of b;refine cW<|cZ<|cF<|bW<|aB<|aX b ET (l:=Km C s a c) rfl rfl<|bX b fun q h b=>an b fun h b=>(aB<|aA<|aD b rfl<|Io hb b fun f g h b=>aA<|ax b fun h b=>e _ _ ?_);exact(eW q C s (eW p C s (a:=a) (c:=c) (b.bZ (aG p 0 _)<|ls dW 2 226 a c s.cC) rfl rfl) rfl rfl)
def aJi (G:Bg) (f:Value) (A:HP) (p:Int×Int->Bool):Prop:=∀(x:Int×Int) (h:AH) (L:HL) (Q:Value->AH->Prop),Hs G h (A::L)->(∀a,Hs G a (A::L)->Q (.bool<|p x) a)->Cx Pr K f [.agg ⟨dW x⟩] h Q
theorem fp {f:Value} {A:HP} {p:Int×Int->Bool} (q:aJi G f A p) (hb:l.length<=1000) (b:Hs G h (A::ls dW 2 226 a c l::L))
  (o:∀g,Hs G g (A::ls dW 2 226 a c l::L)->Q (I<|ixK p l 0) g):ID 308 [.slice a l.length c,f] h Q:=by
 refine cW<|cE ?_
 have loop:∀(k i:Nat) (h:AH),i+k=l.length->ixK p l 0=ixK p (l.drop i) i->Hs G h (A::ls dW 2 226 a c l::L)->Dd 308 1 [] Q [.slice a l.length c,f,I l.length,I i] h:=by
  intro k;induction k with
  |zero=>
   intro i h r d b;rw[eg ER] at d;refine bW<|aQ<|aaa ?_;have:=o _ b;rwa [d] at this
  |succ k t=>
   intro i h r d b;have⟨x,hx,hd⟩:=oY (l:=l) (i:=i) ER;rw[hd,ixK] at d;refine bW<|aQ<|aad<|bW<|vS (e:=226) b ET ER ES<|q x h _ _ b fun h b=>dI (fun j=>?_) fun j=>?_;have:=o _ b;rwa [d,aXg j] at this;rw[aXf ES] at d;exact bW<|aac<|t (i+1) h ER d b
 exact loop l.length 0 h ER ES b
def aNh:aJi G (.func (.func 309) #[] #[IE p]) (aG p 0 [I g]) (isG g):=by
 intro x h L Q a b;refine sR rfl<|cW<|dY a fun q h a=>aA<|aD a rfl<|aD a rfl<|bM<|b _ a.tail
def Od (hb:s.cC.length<=100) (b:Hs G h L) [m:dH (mV p C) L s L'] (e:∀d,Hs G d (mV p C s::L')->Q (I<|ixK (isG g) s.cC 0) d):ID 245 [IE p,I g] h Q:=by
 have⟨a,c,b⟩:=nO<|m.of b;refine cW<|dY b fun q h b=>aB<|aA<|aD b rfl ?_;have b:Hs G h (aG q 0 [I g]::ls dW 2 226 a c s.cC::aG p 0 (Km C s a c)::L'):=b.to;exact fp aNh ER b fun h b=>e _<|(eW p C s b rfl rfl).to
theorem aAz (hb:s.cC.length<=100) (b:Hs G h L) [m:dH (mV p C) L s L'] (d:∀t,Hs G t (mV p C s::L')->Q (.tuple ⟨[I (s.vQ C w g).1,I (s.vQ C w g).2]⟩) t):ID 167 [IE p,I w,I g] h Q:=by
 have⟨a,c,b⟩:=nO<|m.of b;rw[lX.vQ] at d;have f:∀{h:AH},Hs G h (aG p 0 _::ls dW 2 226 a c s.cC::L')->Hs G h _:=fun b=>eW p C s (a:=a) (c:=c) b rfl rfl;refine cW<|cZ<|cF<|bW<|aQ<|bC (fun u=>?_) fun u=>aB<|aA<|aD b rfl<|eQ<|bC (fun v=>?_) fun v=>aQ<|bC (fun y=>?_) fun y=>nU<|bC (fun z=>?_) fun z=>?_;rw[aab] at d;exact d _<|f b;rw[aab] at d;exact d _<|f b;rw[aab] at d;exact d _<|f b;rw[aab] at d;exact d _<|f b;rw[aae] at d;refine bW<|Od (C:=C) hb (f b) fun h b=>aQ<|bC (fun A=>?_) fun A=>?_;rcases E3 (g:=g) (l:=s.cC) with⟨k,o⟩|⟨j,x,k,o,r⟩;rw[o] at d;exact d _ b;omega;rcases E3 (g:=g) (l:=s.cC) with⟨k,o⟩|⟨j,x,k,o,r⟩;omega;rw[r] at d;rw[k];have⟨a,c,b⟩:=nO b;refine bW<|aB<|aA<|aD b rfl<|aFx (enc:=dW) (e:=226) b ER GC rfl<|W3<|dI (fun q=>?_) fun q=>?_;simp[q,e9] at d;exact d _<|eW p C s b rfl rfl;simp only[q] at d;exact d _<|eW p C s b rfl rfl
theorem dm (hC:C.Ok) (hb:s.cC.length<=100) (d:Hs G h L) [m:dH (mV p C) L s L'] (e:∀u,Hs G u (mV p C (s.fX C g).1::L')->Q (.tuple ⟨[I (s.fX C g).2.1,I (s.fX C g).2.2]⟩) u):ID 246 [IE p,I g] h Q:=by
 have z:=hC.2.1.2;have⟨a,c,d⟩:=nO<|m.of d;rw[lX.fX] at e;have f:∀{h:AH},Hs G h (aG p 0 _::ls dW 2 226 a c s.cC::L')->Hs G h _:=fun d=>eW p C s (a:=a) (c:=c) d rfl rfl;refine cW<|cZ<|cF<|bW<|aQ<|bC (fun v=>?_) fun v=>aB<|aA<|aD d rfl<|eQ<|bC (fun w=>?_) fun w=>?_;rw[aae] at e;exact e _<|f d;rw[aae] at e;exact e _<|f d;rw[aab] at e;refine bW<|Od (C:=C) hb (f d) fun h d=>eQ<|bC (fun y=>?_) fun y=>?_;rcases E3 (g:=g) (l:=s.cC) with⟨q,k⟩|⟨j,x,q,k,t⟩;omega;rw[t] at e;exact e _ d;rcases E3 (g:=g) (l:=s.cC) with⟨q,k⟩|⟨j,x,q,k,t⟩;rw[k] at e;have⟨a,c,d⟩:=nO d;refine bW<|aB<|aA<|aA<|aD d rfl<|dI (fun r=>?_) fun r=>?_;simp[r,e9] at e;exact e _<|eW p C s d rfl rfl;simp[r,aO,c9] at e;refine bW<|Au ER<|aH rfl<|aH rfl<|bK<|aaa<|bW<|aM (c:=[.bool true,I g,I<|g/4,.bool false]) rfl<|aB<|aA<|ax (b:=p) (o:=0) d fun h d=>e _ ?_;exact eW p C _ d rfl rfl;omega
end
section
def aOm (m:Nat):(gB [I 0,I 0] m).length=m*2/\(gB [I 0,I 0] m).all gA=true:=by
 have:gB [I 0,I 0] m=eL dW (List.replicate m (0,0)):=by
  induction m with
  |zero=>rfl
  |succ m a=>rw[AO,qV,<-a];rfl
 rw[this];exact⟨by rw[Dc,List.length_replicate],Kw⟩
variable {G:Bg} {h:AH} {C:bT}
def j0 (k:0<l.length) (d:Hs G h L) [m:dH (ls dW 2 226 a c) L l L']
  (w:∀j,Hs G j (ls dW 2 226 a c (l.drop 1)::L')->Q (.slice a (l.drop 1).length c) j):ID 323 [.slice a l.length c,I 0,I 1] h Q:=by
 have d:Hs G h (dJ 2 226 a c (l.length,eL dW l)::L'):=m.of d
 have f:l.length<=c:=by
  obtain⟨r,A,⟨_,_,y⟩,_⟩:=d.fst;rcases y with⟨z,_⟩|⟨z,_⟩|⟨f,_⟩;omega;omega;exact f
 have⟨b,o,ha,_⟩:=d.sQ k
 refine cW<|cE ?_
 refine jh (v:= .slice (some ⟨b,o+0*2,none⟩) (0+1 - 0) (l.length - 0)) ?_ ?_
 .subst ha;have q:qI (some<|I l.length) c c=some l.length:=FF
  have t:qI (some<|I 1) l.length l.length=some 1:=by simp only[qI];rw[aae];rfl
  have u:qI (some<|I 0) 0 1=some 0:=by simp only[qI];rw[aae];rfl
  have g:¬l.length=0:=ER
  simp only[Ao,q,t,u,AX,u7,dd,aO,c9,g,dZ]
  rw[aae]
 refine bM<|aaa<|bW<|cE<|bD d ?_
 intro r h d
 refine aMn (i:=0) ET rfl rfl k d ?_
 intro h d
 have e:(eL dW l).take (0*2)++(eL dW l).drop ((0+1)*2)=eL dW (l.drop 1):=by rw[Vp];simp
 rw[e] at d
 have:=w h
 rw[q5] at this
 apply this
 rw[ls,q5]
 exact d.to
def aGk {x:Int×Int} (hC:C.Ok) (hb:s.cC.length<=100) (d:Hs G h L) [m:dH (mV p C) L s L'] (g:∀u,Hs G u (mV p C (s.I0 C x)::L')->Q (.tuple ⟨[]⟩) u):ID 262 [IE p,.agg ⟨dW x⟩] h Q:=by
 have w:=hC.2.2.2.2.2.1;have⟨a,c,d⟩:=nO<|m.of d;rw[lX.I0] at g;refine cW<|dY d fun q h d=>bD d fun y h d=>?_;refine aB<|aA<|ai p d rfl<|cE<|aB<|aA<|ai p d rfl<|eQ<|bC (fun t=>?_) fun t=>?_;rw[aXg t] at g;refine bW<|aB<|aA<|ai p d rfl<|j0 (a:=a) (c:=c) (l:=s.cC) ER d fun h d=>?_;refine aB<|aA<|ax (b:=p) (o:=0) d fun h d=>bD d fun v h d=>aB<|aA<|ai p d rfl<|am q d (l:=dW x) rfl rfl<|aM (c:=dW x) rfl<|mN (i:=6) (N:=11) (D:=[]) d rfl rfl rfl rfl rfl fun f h d=>?_;refine jO (enc:=dW) (W:=2) (e:=226) (a:=a) (c:=c) (l:=s.cC.drop 1) (a2:=some f) (c2:=1) (l2:=[x]) (show Hs G h (ls dW 2 226 (some f) 1 [x]::_) from d) EW fun j k h d=>?_;refine aB<|aA<|ax (b:=p) (o:=0) d fun h d=>dB dP<|g _ ?_;exact(eW p C {s with cC:=s.cC.drop 1++[x]} (a:=j) (c:=k) d rfl rfl).to;rw[aXf t] at g;refine bD d fun v h d=>aB<|aA<|ai p d rfl<|am q d (l:=dW x) rfl rfl<|aM (c:=dW x) rfl<|mN (r:=v) (i:=6) (N:=11) (D:=[]) d rfl rfl rfl rfl rfl fun f h d=>?_;refine jO (enc:=dW) (W:=2) (e:=226) (a:=a) (c:=c) (l:=s.cC) (a2:=some f) (c2:=1) (l2:=[x]) (show Hs G h (ls dW 2 226 (some f) 1 [x]::_) from d) EW fun j k h d=>?_;refine aB<|aA<|ax (b:=p) (o:=0) d fun h d=>dB dP<|g _ ?_;exact(eW p C {s with cC:=s.cC++[x]} (a:=j) (c:=k) d rfl rfl).to
def aAs {at':Int} (hC:C.Ok) (hb:s.cC.length<=100) (H:0<=s.cJ/\s.cJ<C.bB) (R:0<=w/\w<=1000000) (d:Hs G h L) [m:dH (mV p C) L s L']
  (f:∀l,Hs G l (mV p C (s.fN C at' w).1::L')->Q (.tuple ⟨[I (s.fN C at' w).2.1,.bool (s.fN C at' w).2.2.1,I (s.fN C at' w).2.2.2]⟩) l):ID 185 [IE p,I at',I w] h Q:=by
 have P:=hC.2.1
 have⟨a,c,d⟩:=nO<|m.of d
 rw[lX.fN] at f
 have t:∀{h:AH},Hs G h (aG p 0 (Km C s a c)::ls dW 2 226 a c s.cC::L')->Hs G h (mV p C s::L'):=fun d=>eW p C s (a:=a) (c:=c) d rfl rfl
 refine cW<|cZ<|cF<|bW<|aB<|aA<|aA<|ai p d rfl<|cG<|eI<|dI (fun y=>?_) fun y=>?_
 rotate_left
 .rw[aXg y] at f;exact f _<|t d
 rw[aXf<|by rw[y];simp] at f
 refine bW<|aB<|aA<|aA<|ai p d rfl<|bK<|bC (fun z=>?_) fun z=>?_
 .rw[aXg z] at f;exact f _<|t d
 rw[aXf z] at f
 refine bW<|aB<|aA<|aA<|ai p d rfl<|Au ER<|aH rfl<|aH rfl<|bK<|aaa<|bW<|aB<|aA<|aA<|ai p d rfl<|dI (fun A=>?_) fun A=>?_
 .rw[aXg A] at f;refine bW<|aB<|aA<|aA<|ax (b:=p) (o:=0) d fun h d=>aB<|aA<|aA<|ax (b:=p) (o:=0) d fun h d=>f _ ?_;exact eW p C s.gO (a:=a) (c:=c) d rfl rfl
 rw[aXf<|by rw[A];simp] at f
 refine bW<|bD d fun T h d=>aB<|aA<|ai p d rfl<|aB<|aA<|aA<|ai p d rfl<|aDc (n:=C.bB) (g:=s.cJ) ⟨P,H⟩ R d fun h d=>?_
 generalize uX C.bB s.cJ at' w=r at f
 obtain⟨nx,x,S,e⟩:=r
 simp only at f ⊢
 refine aH rfl<|aH rfl<|aH rfl<|aH rfl<|lF (i:=17) (n:=22) (D:=[]) d rfl rfl fun j h d=>an (b:=j) d fun h d=>dB (aH rfl aT7)<|dB (aH rfl jN)<|bK<|bC (fun B=>?_) fun B=>?_
 .rw[aXg B] at f;exact f _<|t d.to
 rw[aXf B] at f
 have k:∀{h:AH} {M:HL} (v:Int) (u:lX),[C3 M L']->Km C u a c=dU (Km C s a c) 2 [I v]->u.cC=s.cC->Hs G h (aG p 0 (Km C s a c)::ls dW 2 226 a c s.cC::M)->(∀l,Hs G l (mV p C u::L')->Q (.tuple ⟨[I v,.bool false,I 0]⟩) l)->Dd 185 10 [] Q [IE p,I v] h:=by
  intro h M v u _ O J d N;refine bW<|aB<|aA<|aA<|ax (b:=p) (o:=0) d fun h d=>N _ ?_;have:=eW p C u (a:=a) (c:=c) d O.symm J.symm;exact this.to
 have q:∀{h:AH},Hs G h (aG j 0 x.enc::aG p 0 (Km C s a c)::ls dW 2 226 a c s.cC::L')->(∀l,Hs G l (mV p C (s.I0 C (s.cJ,x.owner)).done::L')->Q (.tuple ⟨[I 0,.bool true,I 0]⟩) l)->Dd 185 11 [] Q [IE p,IE j] h:=by
  intro h d N;refine bW<|bD d fun U h d=>aB<|aA<|aA<|ai p d rfl<|aA<|ai j d rfl<|aM (c:=dW (s.cJ,x.owner)) rfl ?_;have d:=eW p C s (a:=a) (c:=c) d rfl rfl;refine aGk hC hb d fun h d=>?_;have⟨a3,c3,d⟩:=nO d;refine aM (c:=[.bool false,I 0,I 0,.bool false]) rfl<|aB<|aA<|ax (b:=p) (o:=0) d fun h d=>N _ ?_;exact(eW p C (s.I0 C (s.cJ,x.owner)).done (a:=a3) (c:=c3) d rfl rfl).to
 have d:Hs G h (aG j 0 x.enc::aG p 0 (Km C s a c)::ls dW 2 226 a c s.cC::L'):=d.to
 refine bW<|dI (fun E=>?_) fun E=>?_
 .subst E;refine aA (ai j d rfl<|dI (fun F=>?_) fun F=>?_)
  .rw[aXg ⟨rfl,F⟩] at f;exact bW<|cG<|eV<|k (M:=aG j 0 x.enc::L') (s.cJ/4) (s.goto<|s.cJ/4) rfl rfl d.to f
  .rw[aXf<|by rw[F];simp,aXf EV] at f;exact bW<|cG<|cF<|q d f
 .subst E;exact cG<|eV<|k (M:=aG j 0 x.enc::L') nx (s.goto nx) rfl rfl d.to f
def Bb (g:Int) (x:Int×Int):Bool:=decide<|g= -1\/x.1=g
def zn:aJi G (.func (.func 265) #[] #[IE p]) (sp [aG p 0 [.func (.func 263) #[] #[IE q]],aG q 0 [I g]]) (Bb g):=by
 intro x h L Q a j;have a:=a.yO;have d:∀{h:AH} {M:HL} {b:Bool},[C3 M L]->b=Bb g x->Hs G h (aG p 0 [.func (.func 263) #[] #[IE q]]::aG q 0 [I g]::M)->Q (.bool b) h:=by
  intro h M b _ f a;show Q _ _;rw[f];exact j _<|Hs.Bc a.to
 refine sR rfl<|cW<|dY a fun r h a=>ai p a rfl<|aA<|ai r a rfl ?_;refine sR rfl<|cW<|ai q a rfl<|bM<|bC (fun e=>?_) fun e=>ai q a rfl<|bM ?_;exact d (M:=aG r 0 (dW x)::L) (by rw[Bb,c8<|.inl e]) a.to;exact d (M:=aG r 0 (dW x)::L) (by exact AV.2 ER) a.to
def oz {f:Value} {A:HP} {p:Int×Int->Bool} (N:aJi G f A p) (hb:l.length<=1000) (d:Hs G h (A::ls dW 2 226 a c l::L))
  (D:∀J,Hs G J (A::ls dW 2 226 a c (l.filter fun x=> !p x)::L)->Q (.slice a (l.filter fun x=> !p x).length c) J):ID 264 [.slice a l.length c,f] h Q:=by
 refine cW<|fp N hb d fun h d=>?_
 rcases Rg (p:=p) (l:=l) (i:=0) with⟨H,r⟩|⟨j,x,H,r,R,S⟩
 .rw[List.filter_eq_self.2 fun x X=>by rw[r x X];rfl] at D;exact bM<|aad<|D _ d
 rw[H]
 have V:=(eh.1 r).1
 refine bM<|aaa<|bW<|aac ?_
 have loop:∀(k i:Nat) (m:List (Int×Int)) (h:AH),i+k=l.length->m.length<i->m=(l.take i).filter (fun x=> !p x)->∀t:List (Int×Int),(m++t).length=i->Hs G h (A::ls dW 2 226 a c (m++t++l.drop i)::L)->
   Dd 264 2 [] Q [.slice a l.length c,f,I m.length,I i] h:=by
  intro k
  induction k with
  |zero=>
   intro i m h U W u t q d
   have v:i=l.length:=ER
   refine bW<|cE<|aQ<|aaa<|bW ?_
   rw[v,AG] at u
   rw[v,List.drop_length,hX] at d
   have d:Hs G h (dJ 2 226 a c ((m++t).length,eL dW<|m++t)::A::L):=d.oN
   have E:(m++t).length=l.length:=ER
   rw[<-E]
   refine aT1 (n:=(m++t).length) (i:=m.length) (e:=226) (cs:=eL dW<|m++t) ET aOm ER d fun h d=>?_
   have:=D h
   rw[<-u] at this
   apply this
   rw[se,EF] at d
   exact d.oN
  |succ k O=>
   intro i m h U W u t q d
   have⟨y,F,hd⟩:=oY (l:=l) (i:=i) ER
   have g:(m++t++l.drop i).length=l.length:=by rw[bj,q,q5];omega
   have Y:(m++t++l.drop i)[i]?=some y:=by rw[l9 ER,q,BK,hd];rfl
   have w:l.take (i+1)=l.take i++[y]:=by rw[x0,F];rfl
   refine bW<|cE<|aQ<|aad<|bW ?_
   rw[<-g]
   refine vS (l:=m++t++l.drop i) (a:=a) (c:=c) (enc:=dW) (e:=226) d ET ER GC<|bX d fun P h d=>an d fun h d=>am P d (l:=dW y) rfl rfl ?_
   refine N y h _ _ (d.aN A) fun h d=>cG<|eI<|dI (fun B=>?_) fun B=>?_
   .refine bW (aac ?_);rw[g];apply(O (i+1) m h ER ER (by rw[w,BN,<-u];simp[B]) (t++[y])<|by simp at q ⊢;omega);rw[show m++(t++[y])++l.drop (i+1)=m++t++l.drop i by rw[hd];simp];exact d.to
   .refine bW (am P d (l:=dW y) rfl rfl ?_);refine W1 (l:=m++t++l.drop i) (a:=a) (c:=c) (enc:=dW) (e:=226) (y:=y) d ET ER ER fun h d=>?_;cases t with
    |nil=>simp at q;omega
    |cons z t=>
     refine aac<|aac ?_
     have:=O (i+1) (m++[y]) h ER EW (by rw[w,BN,<-u];simp[B]) (t++[y]) (by simp at q ⊢;omega)
     rw[bj] at this
     rw[g]
     apply this
     have T:(m++z::t++l.drop i).set ((m.length:Int)).toNat y=m++[y]++(t++[y])++l.drop (i+1):=by
      rw[aP,hd,dx,List.set_append_right _ _<|ba _,BK];simp
     rw[<-T]
     exact d.to
 have:=loop (l.length - (j+1)) (j+1) (l.take j) h ER GO ?_ [x] ?_ ?_
 .rw[ll,EB ER] at this;rwa [AQ]
 .rw[x0,r,BN,List.filter_eq_self.2 fun y F=>by rw[S y F];rfl];simp[R]
 .simp;omega
 .rw[show l.take j++[x]++l.drop (j+1)=l by
   have⟨hj,ex⟩:=eh.1 r;rw[<-ex,dx,List.singleton_append,<-k9 hj,wK]]
  exact d
end
section
variable {G:Bg} {h:AH} {C:bT}
theorem jn (hb:s.cC.length<=100) (d:Hs G h L) [m:dH (mV p C) L s L']
  (e:∀n t,Hs G t (mV p C (s.drop C g).1::L')->Q (.tuple ⟨[I n,I (s.drop C g).2]⟩) t):ID 187 [IE p,I g] h Q:=by
 have⟨a,c,d⟩:=nO<|m.of d
 rw[lX.drop] at e
 have f:∀{h:AH} {M:HL},[C3 M L']->Hs G h (aG p 0 _::ls dW 2 226 a c s.cC::M)->Hs G h (mV p C s::L'):=fun d=>(eW p C s (a:=a) (c:=c) d rfl rfl).to
 refine cW<|dY d fun q h d=>cZ<|cF<|bW<|bD d fun r h d=>aD d rfl<|aQ<|bC (fun u=>?_) fun u=>?_
 .rw[aXg<|.inl u] at e;exact e _ _<|f (M:=aG q 0 [I g]::L') d.to
 refine aD d rfl<|aB<|aA<|aD d rfl<|eQ<|bC (fun v=>?_) fun v=>?_
 .rw[aXg<|.inr v] at e;exact e _ _<|f (M:=aG q 0 [I g]::L') d.to
 rw[aab] at e
 dsimp only at e
 refine bW<|bX d fun p1 h d=>an d fun h d=>aB<|aA<|aD d rfl<|cE<|aB<|aA<|aD d rfl ?_
 have d:=d.bZ (aG p1 0 [.func (.func 263) #[] #[IE q]])<|aG q 0 [I g]
 have d:=d.Bc
 have d:=d.bZ (sp [aG p1 0 [.func (.func 263) #[] #[IE q]],aG q 0 [I g]])<|ls dW 2 226 a c s.cC
 refine oz (zn) ER d fun h d=>?_
 have d:=d.yO
 refine aB<|aA<|ax d fun h d=>bD d fun B h d=>aB<|aA<|aA<|aD d rfl ?_
 have A:s.cC.filter (fun x=> !Bb g x)=s.cC.filter (fun x=> !decide _):=rfl
 have tail:∀{h:AH} {M:HL} (st:Bool),[C3 M L']->Hs G h (aG p 0 [.bool s.eN,I s.cJ,I s.at',.bool st,I C.lI,I C.bB,.slice a (s.cC.filter fun x=> !Bb g x).length c]::ls dW 2 226 a c (s.cC.filter fun x=> !Bb g x)::M)->
   st=(s.nQ||(s.eN&&decide (g= -1\/s.cJ=g)))->∀n:Int,Q (.tuple ⟨[I n,I 0]⟩) h:=by
  intro h M st _ d l n
  apply e n h
  rw[<-l]
  have:=eW p C {s with cC:=s.cC.filter fun x=> !Bb g x,nQ:=st} d rfl rfl
  exact(show Hs G h (mV p C {s with cC:=s.cC.filter fun x=> !decide _,nQ:=st}::M) from this).to
 refine dI (fun w=>?_) fun w=>?_
 .refine aD d rfl (aB<|aA<|aA<|aD d rfl ?_);refine sR rfl<|cW<|aD d rfl<|bM ?_;have go:∀{b:Bool},b=decide (g= -1\/s.cJ=g)->Br (.bool b) (Dd 187 3 [] Q [IE p,I s.cC.length] h) (bQ (pV<|IE p) fun v26=>bQ (iZ 6 v26) fun v27=>bQ (sA h v27) fun v28=>bQ (pG v28) fun v29=>bQ (vX .sub (I s.cC.length) v29) fun v30=>Q (.tuple ⟨[v30,I 0]⟩) h):=by
   intro b j;have k:=rk (fun x=> !Bb g x) s.cC;refine dI (fun y=>?_) fun y=>?_;refine bW<|aB<|aA<|aA<|ax d fun h d=>aB<|aA<|aD d rfl<|cE<|zN ER<|tail (M:=aG p1 0 [.func (.func 263) #[] #[IE q]]::aG q 0 [I g]::L') true (d.sg (b:=p) (o:=0) (c:=[.bool s.eN,I s.cJ,I s.at',.bool true,I C.lI,I C.bB,.slice a _ c]) rfl).to ?_ _;rw[<-j,y,w];simp;refine aB<|aA<|aD d rfl<|cE<|zN ER<|tail (M:=aG p1 0 [.func (.func 263) #[] #[IE q]]::aG q 0 [I g]::L') s.nQ (d.sg (b:=p) (o:=0) (c:=[.bool s.eN,I s.cJ,I s.at',.bool s.nQ,I C.lI,I C.bB,.slice a _ c]) rfl).to ?_ _;grind
  refine bC (fun z=>go ES) fun z=>aD d rfl<|bM<|go ES
 .have k:=rk (fun x=> !Bb g x) s.cC;refine aB<|aA<|aD d rfl<|cE<|zN ER<|tail (M:=aG p1 0 [.func (.func 263) #[] #[IE q]]::aG q 0 [I g]::L') s.nQ (d.sg (b:=p) (o:=0) (c:=[.bool s.eN,I s.cJ,I s.at',.bool s.nQ,I C.lI,I C.bB,.slice a _ c]) rfl).to ?_ _;grind
def jy (b:Hs G h L) [m:dH (mV p C) L s L'] (f:∀g a e,Hs G e (mV p C s::L')->Q (.tuple ⟨[g,a,.bool s.eN]⟩) e):ID 70 [IE p] h Q:=by
 have⟨a,c,b⟩:=nO<|m.of b;refine cW<|cZ<|cF<|aB<|aA<|aA<|aD b rfl<|cG<|eI<|dI (fun d=>?_) fun d=>?_;refine bD b fun r h b=>aB<|aA<|aA<|aD b rfl<|aB<|aA<|aA<|aD b rfl ?_;have:=f (I s.cJ) (I s.at') h (eW p C s b rfl rfl).to;rwa [d] at this;have:=f (I 0) (I 0) h<|eW p C s b rfl rfl;rwa [d] at this
def Gp (q:Nat) (l:List (Int×Int)):HP:=xC fun x:EN×Nat=>sp [aG q 0 [.slice x.1 l.length x.2],ls dW 2 226 x.1 x.2 l]
def Um (hb:s.cC.length<=100) (b:Hs G h L) [m:dH (mV p C) L s L'] (g:∀q f,Hs G f (Gp q s.cC::mV p C s::L')->Q (.func (.func 83) #[] #[IE q]) f):ID 39 [IE p] h Q:=by
 have⟨a,c,b⟩:=nO<|m.of b;refine cW<|bX b fun q h b=>Rj<|eV<|bW<|aB<|aA<|aD b rfl<|Io hb b fun d e h b=>an b fun h b=>g q _ ?_;exact Hs.tG (d,e) ((eW p C s (a:=a) (c:=c) (b.bZ (aG p 0 _)<|ls dW 2 226 a c s.cC) rfl rfl).bZ (aG q 0 [.slice d s.cC.length e])<|ls dW 2 226 d e s.cC).Bc
theorem sf (hb:l.length<=1000):lh Pr K G 83 [] [IE q] (Gp q l) (l.map dW):=by
 intro j J y L h Q b w o r;have⟨⟨a,c⟩,b⟩:=b.uI;have b:=b.yO;have d:∀{h:AH} {M:HL},Hs G h (aG q 0 [.slice a l.length c]::ls dW 2 226 a c l::M)->Hs G h (Gp q l::M):=fun b=>Hs.tG (a,c) b.Bc;refine cW<|aD b rfl<|cE ?_;have loop:∀(f i:Nat) (h:AH),i+f=l.length->Hs G h (aG q 0 [.slice a l.length c]::ls dW 2 226 a c l::j ((l.drop i).map dW)::L)->Dd 83 1 [] Q [y,.slice a l.length c,I l.length,I i] h:=by
  intro f;induction f with
  |zero=>
   intro i h t b;rw[eg ER] at b;exact bW (aQ<|aaa<|o _ _<|d b)
  |succ f z=>
   intro i h t b;have⟨x,hx,hd⟩:=oY (l:=l) (i:=i) ER;rw[hd,kx] at b;refine bW<|aQ<|aad<|bW<|vS (enc:=dW) (e:=226) b ET ER ES<|bX b fun A h b=>an b fun h b=>aA<|aD b rfl<|aA<|aD b rfl<|(w _ _ h _<|b.aN<|j (dW x::((l.drop<|i+1).map dW))).mono fun v k u=>?_;rcases u with⟨rfl,g⟩|⟨rfl,g⟩;exact cG<|cF<|bW<|aac<|z (i+1) k ER g.to;exact cG<|eV<|r _ _<|d g.to
 exact loop l.length 0 h ER (by rwa [kt])
end
instance:Fx aI.enc 9:=⟨fun _=>rfl,fun _=>rfl⟩
variable {G:Bg} {h:AH} {C:bT}
abbrev vV (a:EN) (c:Nat) (l:HM):HP:=ls aI.enc 9 146 a c l
def pQ (C:bT) (p:Nat) (l:HM):HP:=xC fun x:EN×Nat=>sp [aG p 0 [I C.eT,.slice x.1 l.length x.2],vV x.1 x.2 l]
def El {l:HM} (b:Hs G h (pQ C p l::L)):∃a c,Hs G h (aG p 0 [I C.eT,.slice a l.length c]::vV a c l::L):=by
 have⟨⟨a,c⟩,b⟩:=b.uI;exact⟨a,c,b.yO⟩
def rI {l:HM} (b:Hs G h (aG p 0 [I C.eT,.slice a l.length c]::vV a c l::L)):Hs G h (pQ C p l::L):=
 Hs.tG (A:=fun x:EN×Nat=>sp [aG p 0 [I C.eT,.slice x.1 l.length x.2],vV x.1 x.2 l]) (a,c) b.Bc
def aB4 (hC:C.Ok) (a:Hs G h L) (d:∀p b,Hs G b (pQ C p []::L)->Q (.tuple ⟨[IE p,I 0]⟩) b):ID 93 [I C.eT] h Q:=by
 have f:=hC.2.2.2.2.1;refine cW<|aQ<|aaa<|nU<|aaa<|aM (c:=[I C.eT,.slice none 0 0]) rfl<|dY a fun p h a=>d _ _ ?_;exact rI<|(oI (enc:=aI.enc) (W:=9) (e:=146) a).oN
def By {l:HM} (hb:l.length<=2^30) (g:Hs G h L) [m:dH (vV a c) L l L']
  (f:∀b c' d,Hs G d (vV b c' l::vV a c l::L')->Q (.slice b l.length c') d):ID 198 [.slice a l.length c] h Q:=
 cW (Eu (e:=146) (show Hs G h (dJ 9 146 a c (l.length,eL aI.enc l)::L') from m.of g) ER f)
def ur {l:HM} (g:1<=C.eT/\C.eT<=16) (hb:l.length<=1000) (d:Hs G h L) [m:dH (pQ C p) L l L'] (f:∀e,Hs G e (pQ C p l::L')->Q (I<|C.eT - l.length) e):ID 272 [IE p] h Q:=by
 have⟨a,c,d⟩:=El<|m.of d;refine cW<|cZ<|cF<|bD d fun r h d=>aB<|aA<|ai p d rfl<|aB<|aA<|ai p d rfl<|cE<|zN ER<|f _ ?_;exact rI (a:=a) (c:=c) d.to
def aK6 {l:HM} {n:aI} (k:1<=C.eT/\C.eT<=16) (hb:(l.length:Int)<C.eT) (d:Hs G h L) [m:dH (pQ C p) L l L'] [m2:eR (vV a2 c2 [n]) L' M] (q:∀j,Hs G j (pQ C p (l++[n])::M)->Q (I 0) j):
  ID 195 [IE p,.slice a2 1 c2] h Q:=by
 have d:=(m.of d).cR<|m2.cR.cons _
 refine cW<|cZ<|cF<|bW<|cE<|ur (C:=C) (p:=p) (l:=l) k ER d fun h d=>nU<|aaa ?_
 have⟨a,c,d⟩:=El d
 refine bW<|aB<|aA<|ai p d rfl ?_
 refine jO (enc:=aI.enc) (W:=9) (e:=146) (a:=a) (c:=c) (l:=l) (a2:=a2) (c2:=c2) (l2:=[n]) d EW fun f g h d=>?_
 refine aB<|aA<|ax (b:=p) (o:=0) d fun h d=>q _ ?_
 have d:Hs G h (aG p 0 [I C.eT,.slice f (l++[n]).length g]::vV f g (l++[n])::M):=(d.sg (b:=p) (o:=0) (c:=[I C.eT,.slice f (l++[n]).length g]) rfl).to
 exact rI d
def Jb {l:HM} (hb:l.length<=1000) (g:Hs G h L) [m:dH (pQ C p) L l L']
  (Y:l=[]->∀u,Hs G u (pQ C p l::L')->Q (.tuple ⟨[.agg ⟨aI.zero.enc⟩,I 12]⟩) u)
  (R:l≠[]->∀u,Hs G u (pQ C p (l.eraseIdx (w % (l.length:Int)).toNat)::L')->Q (.tuple ⟨[.agg ⟨(l.getD (w % (l.length:Int)).toNat aI.zero).enc⟩,I 0]⟩) u):ID 176 [IE p,I w] h Q:=by
 have⟨a,c,g⟩:=El<|m.of g
 refine cW<|bX (cs:=aI.zero.enc) g fun j h g=>cZ<|cF<|bW<|aB<|aA<|ai p g rfl<|cE<|bM<|bC (fun E=>?_) fun E=>?_
 .refine aM (c:=aI.zero.enc) rfl (an (b:=j) g fun h g=>am j g (l:=aI.zero.enc) rfl rfl<|Y (gg ER) _<|rI (a:=a) (c:=c) g.to)
 have S:l≠[]:=fun e=>by rw[e] at E;simp at E
 have T:=List.length_pos_iff.2 S
 refine bW<|aB<|aA<|ai p g rfl<|cE<|aPv ER ?_
 obtain⟨k,r,α⟩:∃k:Nat,(k:Int)=w % (l.length:Int)/\k<l.length:=by
  have B:=BO w (b:=(l.length:Int)) ER;have P:=BM w (b:=(l.length:Int)) ER;exact⟨(w % (l.length:Int)).toNat,ER,ER⟩
 rw[<-r,aP] at R
 have v:∀(M:HL) (h:AH) (q:Nat),[C3 M L']->Hs G h (aG q 0 aI.zero.enc::aG j 0 aI.zero.enc::aG p 0 [I C.eT,.slice a l.length c]::vV a c l::M)->Dd 176 5 [] Q [IE p,IE j,I k,IE q,.slice none 0 0,.slice a l.length c,I l.length,I 0] h:=by
  intro M h q _ g;have loop:∀(f i:Nat) (b:EN) (d:Nat) (x:aI) (h:AH),i+f=l.length->x=(if i<=k then aI.zero else l.getD k aI.zero)->
    Hs G h (vV b d ((l.take i).eraseIdx k)::aG q 0 x.enc::aG j 0 aI.zero.enc::aG p 0 [I C.eT,.slice a l.length c]::vV a c l::M)->
    Dd 176 5 [] Q [IE p,IE j,I k,IE q,.slice b ((l.take i).eraseIdx k).length d,.slice a l.length c,I l.length,I i] h:=by
   intro f
   induction f with
   |zero=>
    intro i b d x h hi D g
    have J:i=l.length:=ER
    rw[aab] at D
    subst J
    rw[AG] at g ⊢
    refine bW<|aQ<|aaa<|bW<|aB<|aA<|ax (b:=p) (o:=0) g fun h g=>am q g (l:=x.enc) rfl rfl<|an (b:=j) g fun h g=>am j g (l:=x.enc) rfl rfl ?_
    rw[D]
    apply R S h
    have g:Hs G h (aG p 0 [I C.eT,.slice b (l.eraseIdx k).length d]::vV b d (l.eraseIdx k)::M):=(g.sg (b:=p) (o:=0) (c:=[I C.eT,.slice b (l.eraseIdx k).length d]) rfl).to
    exact(rI g).to
   |succ f U=>
    intro i b d x h hi D g
    have⟨y,hy,hd⟩:=oY (l:=l) (i:=i) ER
    have A:l.take (i+1)=l.take i++[y]:=by rw[x0,hy];rfl
    have hle:((l.take i).eraseIdx k).length<=l.length:=by
     have:=List.length_eraseIdx_le (l.take i) k;rw[ll] at this;omega
    refine bW<|aQ<|aad<|bW<|vS (l:=l) (a:=a) (c:=c) (enc:=aI.enc) (e:=146) g.tail ET ER GC<|bX g fun N h g=>an (b:=N) g fun h g=>bM<|bC (fun Z=>?_) fun Z=>?_
    .have H:i=k:=ER
     refine bW<|am N g (l:=y.enc) rfl rfl<|an (b:=q) g fun h g=>aac ?_
     have z:(l.take i).length=i:=GO
     have B:(l.take<|i+1).eraseIdx k=(l.take i).eraseIdx k:=by
      have P:(l.take i).eraseIdx k=l.take i:=BW ER;rw[A,List.eraseIdx_append_of_length_le ER,z,show k - i=0 by omega,P];simp
     have:=U (i+1) b d y h ER (by rw[aab,<-H,ay,hy];rfl)
     rw[B] at this
     exact this g.to
    .refine bW (am N g (l:=y.enc) rfl rfl<|aM (c:=y.enc) rfl<|dC (W:=9) (n:=1) (c:=1) g rfl rfl rfl fun O h g=>?_);refine jO (enc:=aI.enc) (W:=9) (e:=146) (a:=b) (c:=d) (l:=(l.take i).eraseIdx k) (a2:=some O) (c2:=1) (l2:=[y]) (nH g) EW fun V X h g=>aac ?_;have B:(l.take<|i+1).eraseIdx k=(l.take i).eraseIdx k++[y]:=by
      rw[A];by_cases z:k<i;rw[List.eraseIdx_append_of_lt_length GO];rw[BW EW,BW GO]
     have:=U (i+1) V X x h ER (by rw[D];by_cases e:i<=k;rw[aXg e,aae];rw[aXf e,aab])
     rw[B] at this
     exact this g.to
  have:=loop l.length 0 none 0 aI.zero h ER EV (by simpa using oI (enc:=aI.enc) (W:=9) (e:=146) g);simpa using this
 by_cases t:w.tmod (l.length:Int)<0
 .refine aQ (bU t<|bW<|aB<|aA<|ai p g rfl<|cE ?_);have e:w.tmod (l.length:Int)+(l.length:Int)=(k:Int):=by
   rw[r];rw[Int.tmod_eq_emod] at t ⊢;split at t;omega;rename_i F;rw[aXf F];simp
  refine aac ?_
  rw[e]
  exact bX (cs:=aI.zero.enc) g fun q h g=>aB<|aA<|ai p g rfl<|cE<|v L' h q g.to
 .refine aQ (aR t<|bW ?_);have e:w.tmod (l.length:Int)=(k:Int):=by
   rw[r];rw[Int.tmod_eq_emod] at t ⊢;split at t;rename_i F;rw[aXg F];simp;omega
  rw[e]
  exact bX (cs:=aI.zero.enc) g fun q h g=>aB<|aA<|ai p g rfl<|cE<|v L' h q g.to
def jx {l:HM} (hb:l.length<=1000) (d:Hs G h L) [m:dH (pQ C p) L l L'] (j:∀q g,Hs G g (pQ C q l::pQ C p l::L')->Q (IE q) g):ID 174 [IE p] h Q:=by
 have⟨a,c,d⟩:=El<|m.of d;refine cW<|cZ<|cF<|bD d fun r h d=>aB<|aA<|ai p d rfl<|aB<|aA<|ai p d rfl<|By (a:=a) (c:=c) (l:=l) ER d fun e f h d=>?_;refine aM (c:=[I C.eT,.slice e l.length f]) rfl<|Dj (i:=10) (r:=r) d rfl rfl fun q h d=>dB dP<|dB (aB dP)<|dB (aA dP)<|dB (ai p d rfl jN)<|j _ _ ?_;have d:Hs G h (aG p 0 [I C.eT,.slice a l.length c]::vV a c l::aG q 0 [I C.eT,.slice e l.length f]::vV e f l::L'):=d.to;exact(rI<|show Hs G h (aG q 0 [I C.eT,.slice e l.length f]::vV e f l::pQ C p l::L') from(rI d).to).to
def vc (q:Nat) (l:HM):HP:=xC fun x:EN×Nat=>sp [aG q 0 [.slice x.1 l.length x.2],vV x.1 x.2 l]
def aCh {l:HM} (b:Hs G h L) [m:dH (vV a c) L l L'] (e:∀q d,Hs G d (vc q l::L')->Q (.func (.func 328) #[] #[IE q]) d):ID 285 [.slice a l.length c] h Q:=by
 refine cW<|dY (m.of b) fun q h b=>e q h ?_;exact Hs.tG (A:=fun x:EN×Nat=>sp [aG q 0 [.slice x.1 l.length x.2],vV x.1 x.2 l]) (a,c) b.Bc
def aNl {l:HM} (hb:l.length<=100000):lh Pr K G 328 [] [IE q] (vc q l) (l.map fun n=>[.agg ⟨n.enc⟩]):=by
 intro k J y L h Q d D u w;have⟨⟨a,c⟩,d⟩:=d.uI;have d:=d.yO;have g:∀{h:AH} {M:HL},Hs G h (aG q 0 [.slice a l.length c]::vV a c l::M)->Hs G h (vc q l::M):=fun d=>Hs.tG (A:=fun x:EN×Nat=>sp [aG q 0 [.slice x.1 l.length x.2],vV x.1 x.2 l]) (a,c) d.Bc;refine cW<|ai q d rfl<|cE ?_;have loop:∀(f i:Nat) (h:AH),i+f=l.length->Hs G h (aG q 0 [.slice a l.length c]::vV a c l::k ((l.drop i).map fun n=>[.agg ⟨n.enc⟩])::L)->Dd 328 1 [] Q [y,.slice a l.length c,I l.length,I i] h:=by
  intro f;induction f with
  |zero=>
   intro i h z d;rw[eg ER] at d;exact bW (aQ<|aaa<|u _ _<|g d)
  |succ f E=>
   intro i h z d;have⟨x,hx,hd⟩:=oY (l:=l) (i:=i) ER;rw[hd,kx] at d;refine bW<|aQ<|aad<|bW<|vS (l:=l) (a:=a) (c:=c) (enc:=aI.enc) (e:=146) d ET ER GC<|bX d fun r h d=>an (b:=r) d fun h d=>am r d (l:=x.enc) rfl rfl ?_;refine(D _ _ h _<|d.aN<|k ([.agg ⟨x.enc⟩]::((l.drop<|i+1).map fun n=>[.agg ⟨n.enc⟩]))).mono fun v t B=>?_;rcases B with⟨rfl,j⟩|⟨rfl,j⟩;exact cG<|cF<|bW<|aac<|E (i+1) t ER j.to;exact cG<|eV<|w _ _<|g j.to
 exact loop l.length 0 h ER (by rwa [kt])
def y2 {l:HM} (hb:l.length<=1000) (d:Hs G h L) [m:dH (pQ C p) L l L'] (j:∀q e,Hs G e (vc q l::pQ C p l::L')->Q (.func (.func 328) #[] #[IE q]) e):ID 221 [IE p] h Q:=by
 have⟨a,c,d⟩:=El<|m.of d;refine cW<|cZ<|cF<|aB<|aA<|ai p d rfl<|By (a:=a) (c:=c) (l:=l) ER d fun f g h d=>aCh (a:=f) (c:=g) (l:=l) d fun q h d=>j q h ?_;have d:Hs G h (aG p 0 [I C.eT,.slice a l.length c]::vV a c l::vc q l::L'):=d.to;exact(rI d).oN
end Go.Proofs.Z
namespace Go.Proofs.Z
open Go.Hm Go.At Go.Mc Go.Nt
variable {F:fI}
section
def aTm {k:Nat} (h:1<=k/\k<14):∃a,Hw k=1::a:=by
 rcases k14 h.2 with rfl|rfl|rfl|rfl|rfl|rfl|rfl|rfl|rfl|rfl|rfl|rfl|rfl|rfl;omega;all_goals exact⟨_,rfl⟩
def aDo {C:bT} {n:aI} (h:mZ C n=0):Sq n.kind/\0<=n.core/\n.core<C.aE:=by
 rw[mZ] at h;split at h;rename_i b;split at h;split at h;rename_i d;refine⟨b,?_⟩;rw[Sq] at b;have⟨fs,hf⟩:=aTm (k:=n.kind.toNat) ER;rw[hf] at d;have a:=d.1;rw[mB] at a;split at a;rename_i e;exact e;cases a;cases h;cases h;cases h
def aFr {k:Nat} (h:k<14):0<=Tm k/\Tm k<4:=by
 rcases k14 h with rfl|rfl|rfl|rfl|rfl|rfl|rfl|rfl|rfl|rfl|rfl|rfl|rfl|rfl<;>decide
def Ot {n:aI} (h:Sq n.kind):dO n<4/\Tm n.kind.toNat=(dO n:Int):=by
 rw[Sq] at h;have:=aFr (k:=n.kind.toNat) ER;rw[dO];omega
def Oe {α:Type} {g:Nat->Value} (d:j<n):dU ((List.range n).map g) j [v]=(List.range n).map fun k=>if k=j then v else g k:=by
 rw[<-rO _ _ _ EW];apply mn;intro i;rw[dK];by_cases h:i<j;rw[dx,p4 EW,v7 h,gi,gi];by_cases a:i<n;rw[nh a];simp;intro e;omega;omega;rw[dx,l9 EW];have f:min j n=j:=ER
 simp only[ll,js,List.length_range,f];by_cases b:i=j;subst b;rw[p4 EV,BK,gi,nh d];simp;rw[l9<|by rw[kd];omega,x4,kd,show j+1+(i - j - 1)=i by omega,gi,gi];by_cases a:i<n;rw[nh a];simp[b];rw[l5 EW];rfl
variable {G:Bg} {h:AH} {C:bT}
def mF (C:bT) (pl:Nat->Nat):EK:=C.enc++(List.range 16).map fun k=>if k<4*C.aE.toNat then IE (pl k) else .pointer none
def aLn {k:Nat} (a:k<16):(mF C pl)[7+k]?=some (if k<4*C.aE.toNat then IE (pl k) else .pointer none):=by
 rw[mF,l9<|by simp[bT.enc]];simp[bT.enc,nh a]
abbrev tE (C:bT) (pl:Nat->Nat) (F:fI) (k:Nat):HP:=pQ C (pl k)<|F (k/4)<|k % 4
def pU (C:bT) (f:Nat) (F:fI):HP:=xC fun pl:Nat->Nat=>sp [aG f 0<|mF C pl,dV (4*C.aE.toNat)<|tE C pl F]
def A2 (a:Hs G h (pU C f F::L)):∃pl,Hs G h (aG f 0 (mF C pl)::dV (4*C.aE.toNat) (tE C pl F)::L):=by
 have⟨pl,a⟩:=a.uI;exact⟨pl,a.yO⟩
def pT (a:Hs G h (aG f 0 (mF C pl)::dV (4*C.aE.toNat) (tE C pl F)::L)):Hs G h (pU C f F::L):=
 Hs.tG (A:=fun pl:Nat->Nat=>sp [aG f 0<|mF C pl,dV (4*C.aE.toNat)<|tE C pl F]) pl a.Bc
def qj (C:bT) (pl:Nat->Nat) (F:fI) (k:Nat):HP:=sp<|((List.range<|4*C.aE.toNat).erase k).map<|tE C pl F
def I6 {k:Nat} (a:k<4*C.aE.toNat) (b:Hs G h (dV (4*C.aE.toNat) (tE C pl F)::L)):Hs G h (pQ C (pl k) (F (k/4)<|k % 4)::qj C pl F k::L):=b.kE k a
def yI {k:Nat} {l:HM}:(F.set (k/4) (k % 4) l) (j/4) (j % 4)=if j=k then l else F (j/4) (j % 4):=by
 rw[fI.set];by_cases e:j=k;subst e;simp;rw[aXf e,aab]
def Q8 {k:Nat} {l:HM} (b:k<4*C.aE.toNat) (d:Hs G h (pQ C (pl k) l::qj C pl F k::L)):Hs G h (dV (4*C.aE.toNat) (tE C pl<|F.set (k/4) (k % 4) l)::L):=by
 refine Hs.aCm (i:=k) (f:=tE C pl F) (g:=tE C pl<|F.set (k/4) (k % 4) l) b (fun j a=>?_) ?_;rw[tE,yI,aXf a];have e:tE C pl (F.set (k/4) (k % 4) l) k=pQ C (pl k) l:=by rw[tE];rw[yI,aXg rfl]
 rwa [e]
def A8 {y:Int} (hC:C.Ok) (d:Hs G h L) [m:dH (aG f 0) L (mF C pl) L'] (a:Q (if(0<=x/\x<C.aE)/\(0<=y/\y<4) then IE (pl<|x.toNat*4+y.toNat) else .pointer none) h):ID 175 [IE f,I x,I y] h Q:=by
 have l:=hC.1;refine cW<|cZ<|cF<|aQ<|bC (fun e=>?_) fun e=>aB<|aA<|aA<|ai f d rfl<|eQ<|bC (fun g=>?_) fun g=>aQ<|bC (fun j=>?_) fun j=>eQ<|bC (fun k=>?_) fun k=>?_;rwa [aab] at a;rwa [aab] at a;rwa [aab] at a;rwa [aab] at a;rw[aae] at a;refine aB<|aA<|fC ER ER<|fC ER ER<|ai f d (v:=IE<|pl<|x.toNat*4+y.toNat) ?_ a;rw[show 0+7+x.toNat*4+y.toNat*1=7+(x.toNat*4+y.toNat) by omega,aLn ER,aae]
def aHk {x:Nat} (hC:C.Ok) (k:∀c w,(F c w).length<=1000) (q:(x:Int)<C.aE) (r:y<4) (a:Hs G h (aG f 0 (mF C pl)::dV (4*C.aE.toNat) (tE C pl F)::L)) (o:∀g,Hs G g (aG f 0 (mF C pl)::dV (4*C.aE.toNat) (tE C pl F)::L)->Q (I<|C.eT - (F x y).length) g):ID 194 [IE f,I x,I y] h Q:=by
 refine cW<|A8 (C:=C) (pl:=pl) hC a ?_;rw[aae];have b:x*4+y<4*C.aE.toNat:=ER
 have a:=I6 b a.oN;rw[show((x:Int)).toNat*4+((y:Int)).toNat=x*4+y by omega];refine ur (C:=C) (l:=F ((x*4+y)/4)<|(x*4+y) % 4) hC.2.2.2.2.1 (k _ _) a fun h a=>?_;have d:(x*4+y)/4=x/\(x*4+y) % 4=y:=ER
 rw[d.1,d.2];apply(o h);have a:=Q8 b a;have j:F.set ((x*4+y)/4) ((x*4+y) % 4) (F ((x*4+y)/4)<|(x*4+y) % 4)=F:=by
  funext c w;rw[fI.set];split;rename_i e;rw[e.1,e.2];rfl
 rw[j] at a;exact a.oN
def Ar (F a:fI):EK:=(List.range 16).map fun k=>I<|((a (k/4)<|k % 4).length:Int) - (F (k/4)<|k % 4).length
def aGu {a:fI} {x:Nat} (d:x<4) (e:y<4):(Ar F a)[x*4+y]?=some (I<|((a x y).length:Int) - (F x y).length):=by
 rw[Ar,gi,nh ER];have b:(x*4+y)/4=x/\(x*4+y) % 4=y:=ER
 simp[b.1,b.2]
def aG3 {a:fI} {n:aI} {x:Nat} (d:n.core.toNat=x) (g:dO n=y) (f:x<4) (j:y<4):dU (Ar F a) (x*4+y) [I<|((a x y).length:Int) - (F x y).length+1]=Ar F (a.jZ n):=by
 unfold Ar;rw[Oe (α:=Nat) ER];refine sr fun k l=>?_;rw[fI.jZ,d,g];by_cases e:k=x*4+y;subst e;have b:(x*4+y)/4=x/\(x*4+y) % 4=y:=ER
 rw[aXg rfl,b.1,b.2];rw[fI.set];simp;omega;rw[aXf e];rw[fI.set,aab]
end
variable {G:Bg} {h:AH} {C:bT}
def y6 {d:Int} {n:aI} {l:HM}:fI.xP d F (n::l)=if((F n.core.toNat<|dO n).length:Int)<d then fI.xP d (F.jZ n) l else none:=rfl
def aA0 {n:aI} {l:HM}:aU C (n::l)=if mZ C n≠0 then mZ C n else aU C l:=rfl
def cg {l:HM} (h:aU C l=0):∀n∈l,mZ C n=0:=by
 induction l with
 |nil=>rintro n ⟨⟩
 |cons x l d=>
  rw[aU] at h;split at h;rename_i b;exact absurd h b;intro n a;rcases j2.1 a with rfl|a;omega;exact d h n a
def uY {n:aI} (hC:C.Ok) (j:mZ C n=0) (k:((F n.core.toNat<|dO n).length:Int)<C.eT)
  (a:Hs G h (vV a2 c2 [n]::aG f 0 (mF C pl)::dV (4*C.aE.toNat) (tE C pl F)::L)) (g:∀e,Hs G e (aG f 0 (mF C pl)::dV (4*C.aE.toNat) (tE C pl<|F.jZ n)::L)->Q (I 0) e):
  ID 195 [IE<|pl<|n.core.toNat*4+dO n,.slice a2 1 c2] h Q:=by
 have⟨hk1,hk2⟩:=aDo j
 have o:=(Ot hk1).1
 have b:n.core.toNat*4+dO n<4*C.aE.toNat:=ER
 have d:(n.core.toNat*4+dO n)/4=n.core.toNat/\(n.core.toNat*4+dO n) % 4=dO n:=ER
 have a:=I6 b<|a.aN<|dV (4*C.aE.toNat)<|tE C pl F
 rw[d.1,d.2] at a
 refine aK6 (C:=C) (l:=F n.core.toNat<|dO n) (n:=n) hC.2.2.2.2.1 k a fun h a=>?_
 have a:Hs G h (pQ C (pl<|n.core.toNat*4+dO n) (F n.core.toNat (dO n)++[n])::qj C pl F (n.core.toNat*4+dO n)::aG f 0 (mF C pl)::L):=a.to
 have a:=Q8 b a
 rw[d.1,d.2] at a
 exact g _ a.oN
def zJ {l:HM} (hC:C.Ok) (hd:∀c w,(F c w).length<=500) (hl:l.length<=100) (P:Ob G 3 Bp) (α:Ob G 0 fO) (d:Hs G h L) [m:dH (pU C f) L F L'] [m2:eR (vV a c l) L' M]
  (O:∀h',Hs G h' (pU C f (fI.mR C F l).1::vV a c l::M)->Q (I (fI.mR C F l).2) h'):ID 124 [IE f,.slice a l.length c] h Q:=by
 have hc:=hC.1
 have ε:=hC.2.2.2.2.1
 have⟨pl,d⟩:=A2<|m.of d
 have d:=d.cR<|((m2.cR.cons _).cons _).trans<|((List.Perm.swap _ _ _).cons _).trans<|List.Perm.swap _ _ _
 rw[fI.mR] at O
 have H:∀{h:AH} {L2:HL} {B:fI},[C3 L2 M]->Hs G h (vV a c l::aG f 0 (mF C pl)::dV (4*C.aE.toNat) (tE C pl B)::L2)->Hs G h (pU C f B::vV a c l::M):=by
  intro h L2 B _ d;have d:=d.bZ (aG f 0<|mF C pl)<|dV (4*C.aE.toNat)<|tE C pl B;exact(pT d).to
 have V:∀(k i:Nat) (g W:fI) (L2:HL) (h:AH),[C3 L2 M]->i+k=l.length->aU C l=0->fI.xP C.eT F l=some W->fI.xP C.eT g (l.drop i)=some W->Hs G h (vV a c l::aG f 0 (mF C pl)::dV (4*C.aE.toNat) (tE C pl g)::L2)->
   Dd 124 10 [] Q [IE f,.slice a l.length c,I l.length,I i] h:=by
  intro k
  induction k with
  |zero=>
   intro i g W L2 h _ Y q j E d
   rw[eg ER] at E
   cases E
   rw[aab,j] at O
   exact bW (aQ<|aaa<|O _<|H d)
  |succ k ih=>
   intro i g W L2 h _ Y q j E d
   have⟨x,hx,hdr⟩:=oY (l:=l) (i:=i) ER
   have z:=cg q x<|fm hx
   have⟨hk1,hk2⟩:=aDo z
   have⟨hl1,hl2⟩:=Ot hk1
   rw[hdr] at E
   unfold fI.xP at E
   split at E
   .rename_i R;refine bW<|aQ<|aad<|bW<|vS (l:=l) (a:=a) (c:=c) (enc:=aI.enc) (e:=146) d ET ER GC<|bX d fun t h d=>an (b:=t) d fun h d=>aA<|ai t d rfl<|N.tn P d ?_;rw[aXg hk1,hl2];refine aH rfl<|aH rfl<|bK<|aaa<|bW<|bD d fun r1 h0 v=>aA<|ai t v rfl<|A8 (C:=C) (pl:=pl) hC v ?_;rw[aae];refine am t v (l:=x.enc) rfl rfl<|aM (c:=x.enc) rfl<|mN (r:=r1) (i:=6) (N:=9) (D:=[]) v rfl rfl rfl rfl rfl fun a2 h d=>?_;have d:=nH d;have d:Hs G h (vV (some a2) 1 [x]::aG f 0 (mF C pl)::dV (4*C.aE.toNat) (tE C pl g)::vV a c l::L2):=d.to;refine uY (f:=f) hC z R d fun h d=>dB (am t v (l:=x.enc) rfl rfl<|uG ?_)<|bK<|aaa<|bW<|aac<|ih (i+1) (g.jZ x) W L2 h ER q j E d.to;simp[aI.enc,rZ]
   .cases E
 have U:∀(k i p:Nat) (g:fI) (L2:HL) (h:AH),[C3 L2 M]->i+k=l.length->aU C l=0->fI.xP C.eT F l=fI.xP C.eT g (l.drop i)->(∀c w,(g c w).length<=500+i)->Hs G h (aG p 0 (Ar F g)::vV a c l::aG f 0 (mF C pl)::dV (4*C.aE.toNat) (tE C pl F)::L2)->
   Dd 124 6 [] Q [IE f,.slice a l.length c,IE p,.slice a l.length c,I l.length,I i] h:=by
  intro k
  induction k with
  |zero=>
   intro i p g L2 h _ Y q j u d
   rw[eg ER] at j
   refine bW<|aQ<|aaa<|bW<|cE ?_
   exact V l.length 0 F g L2 h ER q j (by rwa [kt]) d.tail
  |succ k ih=>
   intro i p g L2 h _ Y q j u d
   have⟨x,hx,hdr⟩:=oY (l:=l) (i:=i) ER
   have z:=cg q x<|fm hx
   have⟨hk1,hk2⟩:=aDo z
   have⟨hl1,hl2⟩:=Ot hk1
   have⟨y,hy⟩:∃y:Nat,x.core=(y:Int):=⟨x.core.toNat,ER⟩
   have S:x.core.toNat=y:=ER
   rw[hdr,y6,S] at j
   have γ:=u y<|dO x
   have δ:=hd y<|dO x
   refine bW<|aQ<|aad<|bW<|vS (l:=l) (a:=a) (c:=c) (enc:=aI.enc) (e:=146) d ET ER GC<|bX d fun t h d=>an (b:=t) d fun h d=>aA<|ai t d rfl<|N.tn P d ?_
   rw[aXg hk1,hl2]
   have A:x.enc[0+1]?=some (I (y:Int)):=by rw[<-hy];rfl
   have J:∀{B:fI},(Ar F B)[0+y*4+dO x*1]?=some (I<|((B y<|dO x).length:Int) - (F y<|dO x).length):=by
    intro B;rw[show 0+y*4+dO x*1=y*4+dO x by omega];exact aGu ER hl1
   have Z:dU (Ar F g) (0+y*4+dO x*1) [I<|((g y<|dO x).length:Int) - (F y<|dO x).length+1]=Ar F (g.jZ x):=by
    rw[show 0+y*4+dO x*1=y*4+dO x by omega];exact aG3 S rfl ER hl1
   have ζ:(Ar F g).length=16:=by simp[Ar]
   refine aH rfl<|aH rfl<|bK<|aaa<|bW<|bD d fun r1 h d=>aA<|ai t d A<|iN ER<|iN hl1<|ai p d J<|aac<|iN ER<|iN hl1 ?_
   refine bS (b:=p) (o:=0) d rfl (by exact k6 ER) rfl GW fun h d=>?_
   rw[Z] at d
   refine bD d fun r2 h d=>aA<|ai t d A<|iN ER<|iN hl1<|ai p d J<|aA<|ai t d A ?_
   have β:((g.jZ x) y<|dO x).length=(g y<|dO x).length+1:=by unfold fI.jZ fI.set;rw[S,aXg ⟨rfl,rfl⟩,bj];rfl
   have d:=d.bZ (aG f 0<|mF C pl)<|dV (4*C.aE.toNat)<|tE C pl F
   refine aHk (C:=C) (F:=F) (x:=y) (y:=dO x) hC (fun c w=>by have:=hd c w;omega) ER hl1 d fun h d=>nU ?_
   refine dB (aA dP)<|dB (ai t d A jN)<|dB jN<|dB (iN ER dP)<|dB (iN hl1 dP)<|dB (ai p d J jN) ?_
   rw[β]
   refine bC (fun X=>?_) fun X=>?_
   .rw[aab] at j;rw[aab,j] at O;apply O _;exact(pT<|d.bZ (aG f 0<|mF C pl)<|dV (4*C.aE.toNat)<|tE C pl F).to
   .rw[aae] at j;refine bW<|aac<|ih (i+1) p (g.jZ x) L2 h ER q j (fun c w=>?_) d.to;have h2:((g.jZ x) c w).length<=(g c w).length+1:=by
     unfold fI.jZ fI.set;split;rename_i e;rw[e.1,e.2];simp;omega
    have:=u c w
    omega
 have T:∀(k i:Nat) (h:AH),i+k=l.length->aU C l=aU C (l.drop i)->Hs G h (vV a c l::aG f 0 (mF C pl)::dV (4*C.aE.toNat) (tE C pl F)::M)->
   Dd 124 2 [] Q [IE f,.slice a l.length c,.slice a l.length c,I l.length,I i] h:=by
  intro k
  induction k with
  |zero=>
   intro i h Y j d
   rw[eg ER] at j
   refine bW<|aQ<|aaa<|bW<|bX d fun p h d=>cE ?_
   apply U l.length 0 p F M h ER j (by rw[kt]) fun c w=>by have:=hd c w;omega
   have e:Ar F F=[I 0,I 0,I 0,I 0,I 0,I 0,I 0,I 0,I 0,I 0,I 0,I 0,I 0,I 0,I 0,I 0]:=by
    rw[Ar];simp[Int.sub_self];rfl
   rwa [e]
  |succ k ih=>
   intro i h Y j d
   have⟨x,hx,hdr⟩:=oY (l:=l) (i:=i) ER
   rw[hdr,aA0] at j
   refine bW<|aQ<|aad<|bW<|vS (l:=l) (a:=a) (c:=c) (enc:=aI.enc) (e:=146) d ET ER GC<|bX d fun t h d=>an (b:=t) d fun h d=>bD d fun r1 h d=>aB<|aA<|am f d (l:=C.enc) rfl rfl<|am t d (l:=x.enc) rfl rfl ?_
   refine N.aNd (C:=C) (n:=x) P α d fun h d=>bK<|bC (fun X=>?_) fun X=>?_
   .rw[aXg X] at j;rw[aXg<|by rwa [j],j] at O;exact O _<|H (L2:=aG t 0 x.enc::M) d.to
   .rw[aXf X] at j;exact bW<|aac<|ih (i+1) h ER j d.to
 refine cW<|cZ<|cF<|bW<|cE ?_
 exact T l.length 0 h ER (by rw[kt]) d
end Go.Proofs.Z
end
namespace Go.Proofs.Z
open Go.Hm Go.At Go.Mc Go.Nt
variable {F:fI}
section
def Xk (a:k (.bool true)):bQ (Sn .eql (.pointer none)<|.pointer none) k:=⟨_,rfl,a⟩
attribute [local irreducible] bQ Br sA vD vT F4 pC yQ nJ Uh iZ pV tD sH rQ pG vX Sn Rx R8 Rz R0 Xm mQ qJ kH jX Ao Jw nA Qv Ub B0 Cl Cx Xf xZ uP mK gY dD cQ
variable {G:Bg} {h:AH} {C:bT}
def ik {y:Int} (hC:C.Ok) (v:∀c w,(F c w).length<=500) (a:Hs G h L) [m:dH (pU C f) L F L']
  (d:∀g,Hs G g (pU C f (fI.take C F x y w).1::L')->Q (.tuple ⟨[.agg ⟨(fI.take C F x y w).2.1.enc⟩,I (fI.take C F x y w).2.2]⟩) g):ID 122 [IE f,I x,I y,I w] h Q:=by
 have⟨pl,a⟩:=A2<|m.of a
 rw[fI.take] at d
 refine cW<|bX (cs:=aI.zero.enc) a fun p h a=>cZ<|cF<|bW<|A8 (C:=C) (pl:=pl) hC a ?_
 by_cases q:(0<=x/\x<C.aE)/\(0<=y/\y<4)
 .rw[aab] at d;rw[aXg q];refine cZ<|cF ?_;have j:x.toNat*4+y.toNat<4*C.aE.toNat:=ER
  have k:(x.toNat*4+y.toNat)/4=x.toNat/\(x.toNat*4+y.toNat) % 4=y.toNat:=ER
  have a:=I6 j<|a.aN<|dV (4*C.aE.toNat)<|tE C pl F
  rw[k.1,k.2] at a
  have vC:∀{h:AH} (l:HM) (n:aI) (e:Int),Hs G h (pQ C (pl<|x.toNat*4+y.toNat) l::qj C pl F (x.toNat*4+y.toNat)::aG p 0 aI.zero.enc::aG f 0 (mF C pl)::L')->(∀g,Hs G g (pU C f (F.set x.toNat y.toNat l)::L')->Q (.tuple ⟨[.agg ⟨n.enc⟩,I e]⟩) g)->
    bQ (tD 0<|.tuple ⟨[.agg ⟨n.enc⟩,I e]⟩) fun v3=>bQ (tD 1<|.tuple ⟨[.agg ⟨n.enc⟩,I e]⟩) fun v4=>bQ (vT h 9 (IE p) v3) fun t=>bQ (vD t 9<|IE p) fun v6=>Q (.tuple ⟨[v6,v4]⟩) t:=by
   intro h l n e a z
   refine aH rfl<|aH rfl<|an (b:=p) a fun h a=>am p a (l:=n.enc) rfl rfl<|z _ ?_
   have a:=Q8 j<|a.bZ (pQ C (pl<|x.toNat*4+y.toNat) l)<|qj C pl F<|x.toNat*4+y.toNat
   rw[k.1,k.2] at a
   have a:=a.bZ (aG f 0<|mF C pl)<|dV (4*C.aE.toNat)<|tE C pl<|F.set x.toNat y.toNat l
   exact(pT a).to
  refine Jb (C:=C) (l:=F x.toNat y.toNat) (by have:=v x.toNat y.toNat;omega) a (fun r h a=>?_) fun r h a=>?_
  .rw[aXg r] at d;refine vC _ _ _ a fun h a=>d _ ?_;have u:F.set x.toNat y.toNat (F x.toNat y.toNat)=F:=by
    funext c w;rw[fI.set];split;rename_i e;rw[e.1,e.2];rfl
   rwa [u] at a
  .rw[aXf r] at d;exact vC _ _ _ a d
 .rw[aXg q] at d;rw[aXf q];refine Xk<|eV<|aM (c:=aI.zero.enc) rfl ?_;refine an (b:=p) a fun h a=>?_;refine am p a (l:=aI.zero.enc) rfl rfl<|d _ ?_;exact pT a.tail
def dj {x:Nat} (hC:C.Ok) (k:∀c w,(F c w).length<=500) (r:(x:Int)<C.aE) (t:y<4) (a:Hs G h L) [m:dH (pU C f) L F L']
  (o:∀q g,Hs G g (vc q (F x y)::pU C f F::L')->Q (.func (.func 328) #[] #[IE q]) g):ID 142 [IE f,I x,I y] h Q:=by
 have⟨pl,a⟩:=A2<|m.of a
 refine cW<|A8 (C:=C) (pl:=pl) hC a ?_
 rw[aae]
 have b:x*4+y<4*C.aE.toNat:=ER
 have d:(x*4+y)/4=x/\(x*4+y) % 4=y:=ER
 have a:=I6 b a.oN
 rw[show((x:Int)).toNat*4+((y:Int)).toNat=x*4+y by omega]
 rw[d.1,d.2] at a
 refine y2 (C:=C) (l:=F x y) (by have:=k x y;omega) a fun q h a=>o q _ ?_
 have a:=Q8 b<|a.bZ (pQ C (pl<|x*4+y)<|F x y)<|qj C pl F<|x*4+y
 rw[d.1,d.2] at a
 have j:F.set x y (F x y)=F:=by
  funext c w;rw[fI.set];split;rename_i e;rw[e.1,e.2];rfl
 rw[j] at a
 exact(pT<|a.bZ (aG f 0<|mF C pl)<|dV (4*C.aE.toNat)<|tE C pl F).to
def yP (C:bT) (pl:Nat->Nat) (n:Nat):EK:=C.enc++(List.range 16).map fun k=>if k<n then IE (pl k) else .pointer none
def dh (d:n<16):dU (yP C pl n) (7+n) [IE p]=yP C (bJ pl n p) (n+1):=by
 unfold yP;have e:∀(A B:EK) (j:Nat) (v:EK),j+v.length<=B.length->dU (A++B) (A.length+j) v=A++dU B j v:=by
  intro A;induction A with
  |nil=>intro B j v b;simp
  |cons x A f=>intro B j v b;rw[hK,k5,show A.length+1+j=(A.length+j)+1 by omega];show x::dU (A++B) (A.length+j) v=_;rw[f B j v b];rfl
 rw[show 7+n=C.enc.length+n by simp[bT.enc],e _ _ _ _ EW,Oe (α:=Nat) d];congr 1;refine sr fun k _=>?_;by_cases a:k=n;subst a;rw[aXg rfl,aae,bR];rw[aXf a];split;rw[aae,eA a];rw[aab]
def Y5:(yP C pl n).length=23:=by rw[yP];simp[bT.enc]
def uw (b:Hs G h (pQ C p (F (n/4)<|n % 4)::dV n (tE C pl F)::L)):Hs G h (dV (n+1) (tE C (bJ pl n p) F)::L):=by
 apply Hs.Y4;have a:tE C (bJ pl n p) F n=pQ C p (F (n/4)<|n % 4):=by rw[tE];rw[bR]
 rw[a];exact(wV (g:=tE C (bJ pl n p) F) (fun j d=>by rw[tE,eA ER]) b.oN).oN
theorem w8 (hC:C.Ok) (g:Ob G 0 fO) (a:Hs G h L) (u:∀f t,Hs G t (pU C f (fun _ _=>[])::L)->Q (.tuple ⟨[IE f,I 0]⟩) t):ID 50 [.agg ⟨C.enc⟩] h Q:=by
 have y:=hC.1;refine cW<|dY a fun p h a=>am p a (l:=C.enc) rfl rfl<|sD g a fun h a=>?_;rw[aXg hC];refine bK<|aaa<|bW<|am p a (l:=C.enc) rfl rfl<|aM (c:=yP C (fun _=>0) 0) rfl<|dY a fun f h a=>aA<|ai p a rfl ?_;have inner:∀(k w x:Nat) (pl:Nat->Nat) (h:AH),w+k=4->(x:Int)<C.aE->(∀(pl:Nat->Nat) (h:AH),Hs G h (aG f 0 (yP C pl<|4*x+4)::aG p 0 C.enc::dV (4*x+4) (tE C pl fun _ _=>[])::L)->Dd 50 6 [] Q [IE p,IE f,I C.aE,I x] h)->
   Hs G h (aG f 0 (yP C pl<|4*x+w)::aG p 0 C.enc::dV (4*x+w) (tE C pl fun _ _=>[])::L)->Dd 50 4 [] Q [IE p,IE f,I x,I C.aE,I x,I w] h:=by
  intro k
  induction k with
  |zero=>
   intro w x pl h v d j a
   have:w=4:=ER
   subst this
   exact bW (aQ<|aaa<|j pl h a)
  |succ k r=>
   intro w x pl h v d j a
   refine bW<|aQ<|aad<|bW<|aA<|ai p a rfl<|aB4 hC a fun q h a=>aH rfl<|aH rfl<|bK<|aaa<|bW<|aB<|aA<|iN ER<|iN ER ?_
   refine bS (b:=f) (o:=0) a rfl (by rw[Y5];exact k6 EW) rfl GW fun h a=>aac ?_
   rw[show 0+7+x*4+w*1=7+(4*x+w) by omega,dh ER] at a
   apply r (w+1) x (bJ pl (4*x+w) q) h ER d j
   exact(show Hs G h (aG f 0 (yP C (bJ pl (4*x+w) q)<|4*x+(w+1))::aG p 0 C.enc::dV (4*x+(w+1)) (tE C (bJ pl (4*x+w) q) fun _ _=>[])::L) from(uw (F:=fun _ _=>[])<|a.bZ (pQ C q [])<|dV (4*x+w)<|tE C pl fun _ _=>[]).to)
 have outer:∀(k x:Nat) (pl:Nat->Nat) (h:AH),x+k=C.aE.toNat->Hs G h (aG f 0 (yP C pl<|4*x)::aG p 0 C.enc::dV (4*x) (tE C pl fun _ _=>[])::L)->Dd 50 2 [] Q [IE p,IE f,I C.aE,I x] h:=by
  intro k;induction k with
  |zero=>
   intro x pl h d a;refine bW<|aQ<|aaa<|u f h ?_;have e:x=C.aE.toNat:=ER
   subst e;have a:Hs G h (aG f 0 (mF C pl)::aG p 0 C.enc::dV (4*C.aE.toNat) (tE C pl fun _ _=>[])::L):=a;exact(pT<|show Hs G h (aG f 0 (mF C pl)::dV (4*C.aE.toNat) (tE C pl fun _ _=>[])::L) from a.to)
  |succ k r=>
   intro x pl h d a;refine bW<|aQ<|aad<|bW ?_;refine inner 4 0 x pl h ER ER (fun pl h a=>bW<|aac<|r (x+1) pl h ER ?_) a;exact(show Hs G h (aG f 0 (yP C pl<|4*(x+1))::aG p 0 C.enc::dV (4*(x+1)) (tE C pl fun _ _=>[])::L) from by rwa [show 4*(x+1)=4*x+4 by omega])
 have a:=Hs.Zs (f:=tE C (fun _=>0) fun _ _=>[]) a;exact outer C.aE.toNat 0 (fun _=>0) h ER<|show Hs G h (aG f 0 (yP C (fun _=>0) 0)::aG p 0 C.enc::dV 0 (tE C (fun _=>0) fun _ _=>[])::L) from a.to
end
def aPu {a:Nat} {l m:EK} (f:i<n) (d:i*a+a<=l.length) (e:(l.drop<|i*a).take a=m) (b:k (.agg ⟨m⟩)):bQ (Ub n a (.agg ⟨l⟩)<|I i) k:=
 ⟨.agg ⟨m⟩,by unfold Ub;simp only;rw[aXg ⟨ER,ER,HD⟩];simp[e],b⟩
attribute [local irreducible] bQ Br sA vD vT F4 pC yQ nJ Uh iZ pV tD sH rQ pG vX Sn Rx R8 Rz R0 Xm mQ qJ kH jX Ao Jw nA Qv Ub B0 Cl Cx Xf xZ uP mK gY dD cQ
variable {G:Bg} {h:AH} {C:bT}
def oC (C:bT) (pl:Nat->Nat):EK:=(List.range 16).map fun k=>if k<4*C.aE.toNat then IE (pl k) else .pointer none
def Gu:(oC C pl).length=16:=by simp[oC]
def aFz {x w:Nat} (b:x<4) (a:w<4):(((oC C pl).drop<|x*4).take 4)[w]?=some (if x*4+w<4*C.aE.toNat then IE (pl<|x*4+w) else .pointer none):=by
 rw[v7 a,x4,oC,gi,nh ER];rfl
def aAy (a:Q (.pointer none) h):ID 174 [.pointer none] h Q:=
 cW (Xk<|eV a)
def aB3 (f:n<=j) (a:j<16):dU (yP C pl n) (7+j) [.pointer none]=yP C pl n:=by
 rw[yP];have e:∀(A B:EK) (j:Nat) (v:EK),j+v.length<=B.length->dU (A++B) (A.length+j) v=A++dU B j v:=by
  intro A;induction A with
  |nil=>intro B j v a;simp
  |cons x A d=>intro B j v a;rw[hK,k5,show A.length+1+j=(A.length+j)+1 by omega];show x::dU (A++B) (A.length+j) v=_;rw[d B j v a];rfl
 rw[show 7+j=C.enc.length+j by simp[bT.enc],e _ _ _ _ EW,Oe (α:=Nat) a];congr 1;refine sr fun k _=>?_;by_cases b:k=j;rw[aXg b,aab];rw[aXf b]
def l8 (hC:C.Ok) (T:∀c w,(F c w).length<=500) (a:Hs G h L) [m:dH (pU C f) L F L'] (V:∀g O,Hs G O (pU C g F::pU C f F::L')->Q (IE g) O):ID 121 [IE f] h Q:=by
 have Y:=hC.1;have⟨pl,a⟩:=A2<|m.of a;refine cW<|cZ<|cF<|bW<|aB<|aA<|am f a (l:=C.enc) rfl rfl<|aM (c:=yP C (fun _=>0) 0) rfl<|dY a fun g h a=>aB<|aA<|am f a (l:=oC C pl) ?_ Gu ?_;unfold mF oC;rw[show 0+7=C.enc.length by simp[bT.enc],EH,e8 EV];let N:=4*C.aE.toNat;have inner:∀(k w x:Nat) (d:Nat->Nat) (t:HL) (h:AH),[C3 t L']->w+k=4->x<4->(∀(d:Nat->Nat) (h:AH),Hs G h (aG g 0 (yP C d<|min N<|4*x+4)::dV (min N<|4*x+4) (tE C d F)::aG f 0 (mF C pl)::dV N (tE C pl F)::t)->Dd 121 6 [] Q [IE g,.agg ⟨oC C pl⟩,I x] h)->
   Hs G h (aG g 0 (yP C d<|min N<|4*x+w)::dV (min N<|4*x+w) (tE C d F)::aG f 0 (mF C pl)::dV N (tE C pl F)::t)->Dd 121 4 [] Q [IE g,I x,.agg ⟨oC C pl⟩,I x,.agg ⟨((oC C pl).drop<|x*4).take 4⟩,I w] h:=by
  intro k
  induction k with
  |zero=>
   intro w x d t h _ W z E a
   have:w=4:=ER
   subst this
   exact bW (aQ<|aaa<|E d h a)
  |succ k J=>
   intro w x d t h _ W z E a
   refine bW<|aQ<|aad<|bW<|uh ER (aFz z ER)<|bD a fun r h a=>?_
   have vC:∀(v:Value) (y:Nat->Nat) (h:AH),gA v=true->Cv v [v]->dU (yP C d<|min N<|4*x+w) (7+(4*x+w)) [v]=yP C y (min N<|4*x+(w+1))->
     Hs G h (aG g 0 (yP C d<|min N<|4*x+w)::dV (min N<|4*x+(w+1)) (tE C y F)::aG f 0 (mF C pl)::dV N (tE C pl F)::t)->
     bQ (pV<|IE g) fun v4=>bQ (iZ 7 v4) fun v5=>bQ (qJ 4 4 v5<|I x) fun v6=>bQ (qJ 4 1 v6<|I w) fun X=>bQ (vT h 1 X v) fun R=>(rZ (IE g) (IE g)=true)/\((rZ (I x) (I x)=true)/\((rZ (I w) (I w)=true)/\((bQ (pV<|IE g) fun v9=>rZ v9 v4=true)/\((bQ (iZ 7 v4) fun v10=>rZ v10 v5=true)/\((bQ (qJ 4 4 v5<|I x) fun v11=>rZ v11 v6=true)/\(bQ (vX .add (I w)<|I 1) fun v12=>Dd 121 4 [] Q [IE g,I x,.agg ⟨oC C pl⟩,I x,.agg ⟨((oC C pl).drop<|x*4).take 4⟩,v12] R)))))):=by
    intro v y h H S U a
    refine aB<|aA<|iN z<|iN ER ?_
    refine bS (b:=g) (o:=0) a rfl (by rw[Y5];exact k6 EW) (by simp[H]) GW fun h a=>?_
    rw[show 0+7+x*4+w*1=7+(4*x+w) by omega,U] at a
    refine dB dP<|dB jN<|dB jN<|dB (aB dP)<|dB (aA dP)<|dB (iN z dP)<|aac ?_
    exact J (w+1) x y t h ER z E a
   by_cases B:x*4+w<4*C.aE.toNat
   .rw[aXg B];have a:=I6 B<|a.aN<|dV N<|tE C pl F;refine jx (C:=C) (l:=F ((x*4+w)/4)<|(x*4+w) % 4) (by have:=T ((x*4+w)/4)<|(x*4+w) % 4;omega) a fun q h a=>?_;have a:=Q8 B<|a.bZ (pQ C (pl<|x*4+w)<|F ((x*4+w)/4)<|(x*4+w) % 4)<|qj C pl F<|x*4+w;have P:F.set ((x*4+w)/4) ((x*4+w) % 4) (F ((x*4+w)/4)<|(x*4+w) % 4)=F:=by
     funext c w;rw[fI.set];split;rename_i e;rw[e.1,e.2];rfl
    rw[P] at a
    have j:min N (4*x+w)=4*x+w:=by show min (4*C.aE.toNat) _=_;omega
    have u:min N (4*x+(w+1))=4*x+w+1:=by show min (4*C.aE.toNat) _=_;omega
    rw[j,show x*4+w=4*x+w by omega] at a
    refine vC (IE q) (bJ d (4*x+w) q) h rfl inferInstance ?_ ?_
    .rw[j,u,dh ER]
    .rw[j,u];exact(uw<|a.bZ (pQ C q<|F ((4*x+w)/4)<|(4*x+w) % 4)<|dV (4*x+w)<|tE C d F).to
   .rw[aXf B];have j:min N (4*x+w)=N:=FO
    have u:min N (4*x+(w+1))=N:=FO
    refine aAy<|vC (.pointer none) d h rfl inferInstance ?_ ?_
    .rw[j,u];exact aB3 ER ER
    .rw[j] at a;rw[j,u];exact a.to
 have outer:∀(k x:Nat) (d:Nat->Nat) (t:HL) (h:AH),[C3 t L']->x+k=4->Hs G h (aG g 0 (yP C d<|min N<|4*x)::dV (min N<|4*x) (tE C d F)::aG f 0 (mF C pl)::dV N (tE C pl F)::t)->Dd 121 2 [] Q [IE g,.agg ⟨oC C pl⟩,I x] h:=by
  intro k;induction k with
  |zero=>
   intro x d t h _ z a;refine bW<|aQ<|aaa<|V g h ?_;have j:min N (4*x)=N:=FO
   rw[j] at a;have a:=a;have a:=pT a;exact(pT<|a.bZ (aG f 0<|mF C pl)<|dV (4*C.aE.toNat)<|tE C pl F).to
  |succ k J=>
   intro x d t h _ z a;refine bW (aQ<|aad<|bW<|aPu ER (by rw[Gu];omega) rfl<|bX a fun p h a=>?_);have A:(((oC C pl).drop<|x*4).take 4).length=4:=by rw[ll,q5,Gu];omega
   have D:(((oC C pl).drop<|x*4).take 4).all gA=true:=by
    refine lP.2 fun v H=>?_;have:=DB<|List.mem_of_mem_take H;rw[oC] at this;obtain⟨k,_,rfl⟩:=gL.1 this;split<;>rfl
   refine bE (b:=p) a rfl rfl A D fun h a=>am p a (l:=((oC C pl).drop<|x*4).take 4) (by rw[kt];exact e8 ER) A ?_;refine inner 4 0 x d (aG p 0 (((oC C pl).drop<|x*4).take 4)::t) h ER ER (fun d h a=>bW<|aac<|J (x+1) d (aG p 0 (((oC C pl).drop<|x*4).take 4)::t) h ER<|by rwa [show 4*(x+1)=4*x+4 by omega]) ?_;exact a.to
 have a:=Hs.Zs (f:=tE C (fun _=>0) F) a;refine outer 4 0 (fun _=>0) L' h ER ?_;rw[show min N (4*0)=0 by omega];exact a.to
end Go.Proofs.Z
variable {m:Nat} {z:EK}
section
attribute [local irreducible] bQ Br sA vD vT F4 pC yQ nJ Uh iZ pV tD sH rQ pG vX Sn Rx R8 Rz R0 Xm mQ qJ kH jX Ao Jw nA Qv Ub B0 Cl Cx Xf xZ uP mK gY dD cQ
namespace Go.Proofs.Z
open Go.Hm Go.At Go.Is Go.Mc
variable {s:aT}
section
instance:Fx fM.enc 4:=⟨fun _=>rfl,fun _=>rfl⟩
variable {G:Bg} {h:AH}
abbrev Ya (a:EN) (c:Nat) (l:HO):HP:=ls fM.enc 4 69 a c l
def oF (i:Nat) (s:aT) (a:EN) (c:Nat):EK:=s.core++[I i,.slice a s.prog.length c]
def oT (i:Nat) (p:Nat) (s:aT):HP:=xC fun x:EN×Nat=>sp [aG p 0<|oF i s x.1 x.2,Ya x.1 x.2 s.prog]
def sY (b:Hs G h (oT i p s::L)):∃a c,Hs G h (aG p 0 (oF i s a c)::Ya a c s.prog::L):=by
 have⟨⟨a,c⟩,b⟩:=b.uI;exact⟨a,c,b.yO⟩
def nZ (p i:Nat) (s:aT) {l:HO} {b:HL} (f:Hs G h L) [m:dH (aG p 0) L cs b] [m2:dH (Ya a c) b l L2] (d:cs=oF i s a c) (e:l=s.prog):Hs G h (oT i p s::L2):=by
 subst d e;exact Hs.tG (A:=fun x:EN×Nat=>sp [aG p 0<|oF i s x.1 x.2,Ya x.1 x.2 s.prog]) (a,c)<|Hs.kC (A:=[_,_])<|f.cR<|m.cR.trans<|m2.cR.cons _
def aP1 {k:Int} (b:0<=k/\k<4):(oF i s a c)[0+0+0+k.toNat*1]?=some (I<|s.cX k.toNat):=by
 have:k=0\/k=1\/k=2\/k=3:=ER
 rcases this with rfl|rfl|rfl|rfl<;>rfl
def aLx {k v:Int} (b:0<=k/\k<4):dU (oF i s a c) (0+0+0+k.toNat*1) [I v]=oF i (s.dL k v) a c:=by
 have:k=0\/k=1\/k=2\/k=3:=ER
 rcases this with rfl|rfl|rfl|rfl<;>rfl
def Dm {k:Int} {q:Value->Prop} (f:Hs G h L) [m:dH (aG p 0) L (oF i s a c) L'] (d:0<=k/\k<4) (e:q (I<|s.cX k.toNat)):bQ (pV<|IE p) fun v4=>bQ (iZ 0 v4) fun v5=>bQ (iZ 0 v5) fun v6=>bQ (qJ 4 1 v6<|I k) fun g=>bQ (sA h g) q:=
 aB (aA<|aA<|fC d.1 d.2<|ai p f (aP1 d) e)
def zK {k v:Int} {q:AH->Prop} (d:Hs G h L) [m:dH (aG p 0) L (oF i s a c) L'] (e:0<=k/\k<4) (g:∀f,Hs G f (aG p 0 (oF i (s.dL k v) a c)::L')->q f):bQ (pV<|IE p) fun v4=>bQ (iZ 0 v4) fun v5=>bQ (iZ 0 v5) fun v6=>bQ (qJ 4 1 v6<|I k) fun j=>bQ (vT h 1 j<|I v) q:=by
 refine aB<|aA<|aA<|fC e.1 e.2 ?_;have l:(oF i s a c).length=9:=rfl;refine bS (b:=p) (o:=0) d rfl (by exact k6 EW) rfl rfl fun h d=>?_;rw[aLx e] at d;exact g _ d
def vp (q:0<=x) (d:cs[8]?=some (.slice a s.prog.length c)) (g:Hs G h L) [m:dH (aG p 0) L cs L'] [m2:dH (Ya a c) L' s.prog M] (f:∀k,Hs G k L->Q (.bool<|Ga s.prog x) k):ID 145 [IE p,I x] h Q:=by
 rw[Ga] at f;refine cW<|aQ<|aaa<|aB<|aA<|ai p g d<|cE<|eQ<|bC (fun j=>?_) fun j=>?_;rw[aXg j] at f;exact f _ g;rw[aXf j] at f;refine aB<|aA<|ai p g d<|aFx (l:=s.prog) (a:=a) (c:=c) (enc:=fM.enc) (e:=69) (x:=hQ s.prog x) (g.cR<|m.cR.trans<|m2.cR.cons _) q ?_ rfl<|bM ?_;rw[hQ,ay,aL ER];rfl;exact f _ g
def Jk (g:0<=x) (d:Hs G h L) [m:dH (oT i p) L s L'] (f:∀e,Hs G e (oT i p (s.iO x)::L')->Q (.tuple ⟨[]⟩) e):ID 89 [IE p,I x] h Q:=by
 have⟨a,c,d⟩:=sY<|m.of d;refine cW<|aB<|aA<|aA<|ax (b:=p) (o:=0) d fun h d=>?_;refine vp (s:=s) (a:=a) (c:=c) g rfl d fun h d=>aB<|aA<|aA<|ax (b:=p) (o:=0) d fun h d=>f _ ?_;exact nZ p i (s.iO x) (a:=a) (c:=c) d rfl rfl
def Zp {x:fM} (d:Hs G h L) [m:dH (aG p 0) L (oF i s a c) L'] (f:∀e,Hs G e L->Q (.agg ⟨(aT.ev s i x 0 0 0).enc⟩) e):ID 163 [IE p,.agg ⟨x.enc⟩] h Q:=by
 refine cW<|dY d fun q h d=>bX d fun r h d=>bD d fun g h d=>?_;refine aB<|aA<|ai p d rfl<|aB<|aA<|aA<|ai p d rfl<|aA<|ai q d rfl<|aB<|aA<|aA<|ai p d rfl<|aM (c:=(aT.ev s i x 0 0 0).enc) rfl ?_;refine an (b:=r) d fun h d=>am r d (l:=(aT.ev s i x 0 0 0).enc) rfl rfl<|f _ d.to
def aQ1:fM:=⟨0,0,0,0⟩
def N3 (g:s.Ok) (d:Hs G h L) [m:dH (oT i p) L s L'] (f:∀k,Hs G k (oT i p s::L')->Q (if s.over then .tuple ⟨[.agg ⟨aQ1.enc⟩,.bool false]⟩ else .tuple ⟨[.agg ⟨(hQ s.prog s.at').enc⟩,.bool true]⟩) k):ID 162 [IE p] h Q:=by
 have⟨a,c,d⟩:=sY<|m.of d;refine cW<|bX d fun q h d=>cZ<|cF<|aB<|aA<|aA<|ai p d rfl<|vp (s:=s) (a:=a) (c:=c) g.1 rfl d fun h d=>?_;rw[<-g.2.2.1];refine dI (fun j=>?_) fun j=>?_;rw[j,aXg rfl] at f;refine aM (c:=aQ1.enc) rfl<|an (b:=q) d fun h d=>am q d (l:=aQ1.enc) rfl rfl<|f _ ?_;exact(nZ p i s (a:=a) (c:=c) d rfl rfl).to;rw[j] at f;have t:=Ez (p:=s.prog) (a:=s.at') (by rwa [<-g.2.2.1]);have r:=g.1;refine bD d fun u h d=>aB<|aA<|ai p d rfl<|aB<|aA<|aA<|ai p d rfl ?_;refine vS (l:=s.prog) (a:=a) (c:=c) (enc:=fM.enc) (e:=69) (x:=hQ s.prog s.at') d ET r ?_ ?_;rw[hQ,ay,aL ER];rfl;refine an (b:=q) d fun h d=>am q d (l:=(hQ s.prog s.at').enc) rfl rfl<|f _ ?_;exact(nZ p i s (a:=a) (c:=c) d rfl rfl).to
def Ur (a:Q (.bool<|M6 x) h):ID 166 [I x] h Q:=by
 rw[M6] at a;refine cW<|bM<|bC (fun b=>?_) fun b=>bM<|bC (fun d=>?_) fun d=>bM ?_;rwa [c8 ER] at a;rwa [c8 ER] at a;rwa [show decide (x=3\/x=4\/x=5)=decide (x=5) from AV.2 ER] at a
end
section
def E9 (a:s.Ok) (h:s.over=false):aMc (hQ s.prog s.at') s.prog.length:=
 Jj (a.2.2.2.2 _<|Ec a.1<|Ez<|by rwa [<-a.2.2.1])
variable {G:Bg} {h:AH}
def nT {v:Ev} {g:Nat} {b:Value} (u:z.length=7) (t:0<=x) (a:Hs G h (oT i p s::aG g 0 v.enc::aG f 0 z::L)) (r:∀q,Hs G q (oT i p (s.iO x)::L)->Q (.tuple ⟨[.agg ⟨v.enc⟩,b]⟩) q):
  ID 89 [IE p,I x] h fun _ d=>bQ (vD d 7<|IE g) fun j=>bQ (vT d 7 (IE f) j) fun e=>bQ (vD e 7<|IE f) fun k=>Q (.tuple ⟨[k,b]⟩) e:=by
 refine Jk (i:=i) (s:=s) t a fun h a=>am g a (l:=v.enc) rfl rfl<|bE (b:=f) a (by rw[u];rfl) rfl rfl rfl fun h a=>am f a (l:=v.enc) rfl rfl<|r _ a.to
def aH5 (B:s.Ok) (d:Hs G h L) [m:dH (oT i p) L s L']
  (f:∀E,Hs G E (oT i p (match aT.lM s i with|some r=>r.1|none=>s)::L')->Q (match aT.lM s i with|some r=> .tuple ⟨[.agg ⟨r.2.enc⟩,.bool true]⟩|none=> .tuple ⟨[.agg ⟨Jy.enc⟩,.bool false]⟩) E):ID 116 [IE p] h Q:=by
 have d:=m.of d
 have I:=B.1
 unfold aT.lM aT.lJ at f
 refine cW<|bX (cs:=Jy.enc) d fun u h d=>N3 (i:=i) (s:=s) B d fun h d=>?_
 cases hov:s.over with
 |true=>
  simp only[hov,e9] at f ⊢
  refine aH rfl<|aH rfl<|bX d fun j h d=>an (b:=j) d fun h d=>cG<|eV<|aM (c:=Jy.enc) rfl ?_
  refine an (b:=u) d fun h d=>am u d (l:=Jy.enc) rfl rfl (f _ d.to)
 |false=>
  have q:=E9 B hov
  simp only[hov,aO,c9] at f ⊢
  generalize J:hQ s.prog s.at'=x at f q
  refine aH rfl<|aH rfl<|bX d fun j h d=>an (b:=j) d fun h d=>cG<|cF ?_
  obtain⟨a,c,d⟩:=sY<|d.aN<|oT i p s
  refine bW<|am j d (l:=x.enc) rfl rfl<|Zp (a:=a) (c:=c) (s:=s) d fun h d=>bX d fun g h d=>an (b:=g) d fun h d=>?_
  refine aB<|aA<|aA<|ai p d rfl<|bI (by have:=B.2.1;omega)<|aA<|ai j d rfl ?_
  have d:Hs G h (aG j 0 x.enc::aG g 0 (aT.ev s i x 0 0 0).enc::aG u 0 Jy.enc::aG p 0 (oF i s a c)::Ya a c s.prog::L'):=d.to
  have e:∀{h:AH} {s':aT} {M:HL} {v:Ev},s'.prog=s.prog->Hs G h (aG g 0 v.enc::aG u 0 Jy.enc::aG p 0 (oF i s' a c)::Ya a c s.prog::L')->Hs G h (oT i p s'::aG g 0 v.enc::aG u 0 Jy.enc::L'):=by
   intro h s' M v D d;exact nZ p i s' (a:=a) (c:=c) d rfl D.symm
  refine bM<|bC (fun k=>?_) fun k=>bW<|bM<|bC (fun c2=>?_) fun c2=>bW<|bM<|bC (fun y=>?_) fun y=>bW<|bM<|bC (fun z=>?_) fun z=>bW<|bM<|bC (fun A=>?_) fun A=>bW<|bM<|bC (fun t=>?_) fun t=>?_
  .simp[k,e9] at f;refine bW<|aA<|ai j d rfl<|aA<|ax (b:=g) (o:=0) d fun h d=>bD d fun F h d=>aA<|ai j d rfl<|aA<|ai g d rfl<|zK (s:=s) (a:=a) (c:=c) d (q.r1 ER) fun h d=>?_;exact nT (s:=s.dL x.a x.b) (v:=aT.ev s i x 0 x.b 0) rfl ER (e (M:=L) (s':=s.dL x.a x.b) rfl (d.sg (b:=g) (o:=0) (c:=(aT.ev s i x 0 x.b 0).enc) rfl).to) f
  .simp only[aXf k,c2,e9] at f;refine bW<|bD d fun F h d=>aA<|ai j d rfl<|Dm (s:=s) (i:=i) (a:=a) (c:=c) d (q.r2 ER)<|aA<|ai j d rfl<|Dm (s:=s) (i:=i) (a:=a) (c:=c) d (q.r3 ER)<|Xs<|aA ?_;refine ax (b:=g) (o:=0) d fun h d=>bD d fun H h d=>aA<|ai j d rfl<|aA<|ai g d rfl<|zK (s:=s) (a:=a) (c:=c) d (q.r1 ER) fun h d=>?_;exact nT (s:=s.dL x.a<|wr<|s.cX x.b.toNat+s.cX x.c.toNat) (v:=aT.ev s i x 0 (wr<|s.cX x.b.toNat+s.cX x.c.toNat) 0) rfl ER (e (M:=L) (s':=s.dL x.a<|wr<|s.cX x.b.toNat+s.cX x.c.toNat) rfl (d.sg (b:=g) (o:=0) (c:=(aT.ev s i x 0 (wr<|s.cX x.b.toNat+s.cX x.c.toNat) 0).enc) rfl).to) f
  .simp only[aXf k,aXf c2,y,e9] at f;exact bW<|nT (s:=s) (v:=aT.ev s i x 0 0 0) rfl ER (e (M:=L) (s':=s) rfl d.to) f
  .simp only[aXf k,aXf c2,aXf y,z,e9] at f;refine bW (aA<|ai j d rfl<|aA<|ax (b:=g) (o:=0) d fun h d=>aB<|aA<|aA<|ai p d rfl<|bM<|bC (fun w=>?_) fun w=>?_)
   .simp only[w,e9] at f;refine bW<|aA<|ai j d rfl<|aB<|aA<|aA<|ax (b:=p) (o:=0) d fun h d=>?_;exact nT (s:=s.Vh x.a) (v:=aT.ev s i x 0 x.a 0) rfl ER (e (M:=L) (s':=s.Vh x.a) rfl ((d.sg (b:=g) (o:=0) (c:=(aT.ev s i x 0 x.a 0).enc) rfl).sg (b:=p) (o:=0) (c:=oF i (s.Vh x.a) a c) rfl).to) f
   .simp only[aXf w] at f;refine bW<|aA<|ax (b:=g) (o:=0) d fun h d=>?_;exact nT (s:=s) (v:=aT.ev s i x 0 x.a 18) rfl ER (e (M:=L) (s':=s) rfl (d.sg (b:=g) (o:=0) (c:=(aT.ev s i x 0 x.a 18).enc) rfl).to) f
  .simp only[aXf k,aXf c2,aXf y,aXf z,A,e9] at f;have D:=q.p1 ER;refine bW<|aA<|ai j d rfl<|aA<|ax (b:=g) (o:=0) d fun h d=>aA<|ai j d rfl ?_;exact nT (s:=s) (v:=aT.ev s i x 0 x.a 0) rfl ER (e (M:=L) (s':=s) rfl (d.sg (b:=g) (o:=0) (c:=(aT.ev s i x 0 x.a 0).enc) rfl).to) f
  .simp only[aXf k,aXf c2,aXf y,aXf z,aXf A,t,e9] at f;have D:=q.p2 ER;refine bW<|bD d fun F h d=>aA<|ai j d rfl<|Dm (s:=s) (i:=i) (a:=a) (c:=c) d (q.r1 ER)<|aA ?_;refine ax (b:=g) (o:=0) d fun h d=>aA (ai g d rfl<|bM<|bC (fun w=>?_) fun w=>?_)
   .simp only[aXg w] at f;have d:=d.sg (b:=g) (o:=0) (c:=(aT.ev s i x 0 (s.cX x.a.toNat) 0).enc) rfl;refine bW<|aA<|ai j d rfl ?_;exact nT (s:=s) (v:=aT.ev s i x 0 (s.cX x.a.toNat) 0) rfl ER (e (M:=L) (s':=s) rfl d.to) f
   .simp only[aXf w] at f;exact bW<|nT (s:=s) (v:=aT.ev s i x 0 (s.cX x.a.toNat) 0) rfl ER (e (M:=L) (s':=s) rfl (d.sg (b:=g) (o:=0) (c:=(aT.ev s i x 0 (s.cX x.a.toNat) 0).enc) rfl).to) f
  .simp[aXf k,aXf c2,aXf y,aXf z,aXf A,aXf t] at f;refine aM (c:=Jy.enc) rfl<|an (b:=u) d fun h d=>am u d (l:=Jy.enc) rfl rfl<|f _ ?_;exact(nZ p i s (a:=a) (c:=c) d rfl rfl).to
end
section
def xT (a:U3):EK:=[I a.cS,.bool a.dX,.bool a.Su,I a.value]
def Wj:U3:=⟨0,false,false,0⟩
def xm:Mc.Yc:=⟨0,0,0,0,0⟩
variable {G:Bg} {h:AH}
def Ku (z:s.Ok) (d:Hs G h L) [m:dH (oT i p) L s L']
  (f:∀q,Hs G q (oT i p s::L')->Q (match aT.iK s with|some a=> .tuple ⟨[.agg ⟨xT a⟩,.bool true]⟩|none=> .tuple ⟨[.agg ⟨xT Wj⟩,.bool false]⟩) q):ID 119 [IE p] h Q:=by
 have d:=m.of d
 unfold aT.iK aT.lJ at f
 refine cW<|bX (cs:=xT Wj) d fun g h d=>N3 (i:=i) (s:=s) z d fun h d=>?_
 cases hov:s.over with
 |true=>
  simp only[hov,e9] at f ⊢
  refine aH rfl<|aH rfl<|bX d fun j h d=>an (b:=j) d fun h d=>cG<|eV<|aM (c:=xT Wj) rfl ?_
  refine an (b:=g) d fun h d=>am g d (l:=xT Wj) rfl rfl (f _ d.to)
 |false=>
  have t:=E9 z hov
  simp only[hov,aO,c9] at f ⊢
  generalize F:hQ s.prog s.at'=x at f t
  refine aH rfl<|aH rfl<|bX d fun j h d=>an (b:=j) d fun h d=>cG<|cF<|aA<|ai j d rfl<|Ur<|cG<|eI<|dI (fun k=>?_) fun k=>?_
  .have k:=k;have B:=eo k;simp only[k,e9] at f;have A:=t.r1 ER;have u:=t.r2 ER;have⟨a,c,d⟩:=sY<|d.aN<|oT i p s;have d:Hs G h (aG j 0 x.enc::aG g 0 (xT Wj)::aG p 0 (oF i s a c)::Ya a c s.prog::L'):=d.to;have vC:∀{h:AH} {M:HL} (e:Nat) (v:U3),[C3 M L']->Hs G h (aG e 0 (xT v)::aG g 0 (xT Wj)::aG p 0 (oF i s a c)::Ya a c s.prog::M)->(∀q,Hs G q (oT i p s::L')->Q (.tuple ⟨[.agg ⟨xT v⟩,.bool true]⟩) q)->
     bQ (vD h 4<|IE e) fun v1=>bQ (vT h 4 (IE g) v1) fun y=>bQ (vD y 4<|IE g) fun v3=>Q (.tuple ⟨[v3,.bool true]⟩) y:=by
    intro h M e v _ d E
    refine am e d (l:=xT v) rfl rfl<|an (b:=g) d fun h d=>am g d (l:=xT v) rfl rfl<|E _ ?_
    exact(nZ p i s (a:=a) (c:=c) d rfl rfl).to
   refine bW<|bD d fun w h d=>aA<|ai j d rfl<|Dm (s:=s) (i:=i) (a:=a) (c:=c) d u<|aM (c:=xT ⟨s.cX x.b.toNat,false,false,0⟩) rfl ?_
   refine lF (r:=w) (i:=9) (n:=11) (D:=[]) (cs:=xT Wj) d rfl rfl fun e h d=>an (b:=e) d fun h d=>aA<|ai j d rfl<|bM<|bC (fun c3=>?_) fun c3=>bW<|bM<|bC (fun c5=>?_) fun c5=>bW<|bM<|bC (fun c4=>?_) fun c4=>?_
   .rw[ec ER,c8<|show x.op≠4 by omega,aXg<|show x.op=3 by omega] at f;refine bW<|aA<|ax (b:=e) (o:=0) d fun h d=>?_;exact vC (M:=L') e ⟨s.cX x.b.toNat,false,true,0⟩ (d.sg (b:=e) (o:=0) (c:=xT ⟨s.cX x.b.toNat,false,true,0⟩) rfl).to f
   .rw[c8<|show x.op≠3 by omega,c8<|show x.op≠4 by omega,aXf<|show ¬x.op=3 by omega] at f;refine bW<|aA<|ax (b:=e) (o:=0) d fun h d=>aA<|ax (b:=e) (o:=0) d fun h d=>bD d fun w h d=>aA<|ai j d rfl<|Dm (s:=s) (i:=i) (a:=a) (c:=c) d A<|aA<|ax (b:=e) (o:=0) d fun h d=>?_;exact vC (M:=L') e ⟨s.cX x.b.toNat,true,true,s.cX x.a.toNat⟩ (d.sg (b:=e) (o:=0) (c:=xT ⟨s.cX x.b.toNat,true,true,s.cX x.a.toNat⟩) rfl).to f
   .rw[c8<|show x.op≠3 by omega,ec ER,aXf<|show ¬x.op=3 by omega] at f;refine bW<|aA<|ax (b:=e) (o:=0) d fun h d=>bD d fun w h d=>aA<|ai j d rfl<|Dm (s:=s) (i:=i) (a:=a) (c:=c) d A<|aA<|ax (b:=e) (o:=0) d fun h d=>?_;exact vC (M:=L') e ⟨s.cX x.b.toNat,true,false,s.cX x.a.toNat⟩ (d.sg (b:=e) (o:=0) (c:=xT ⟨s.cX x.b.toNat,true,false,s.cX x.a.toNat⟩) rfl).to f
   .omega
  .simp[k,aO,c9] at f;refine aM (c:=xT Wj) rfl<|an (b:=g) d fun h d=>am g d (l:=xT Wj) rfl rfl<|f _ d.to
def aP7 (r:s.Ok) (d:Hs G h L) [m:dH (oT i p) L s L']
  (e:∀q,Hs G q (oT i p s::L')->Q (match aT.Vw s i with|some a=> .tuple ⟨[.agg ⟨a.enc⟩,.bool true]⟩|none=> .tuple ⟨[.agg ⟨xm.enc⟩,.bool false]⟩) q):ID 117 [IE p] h Q:=by
 have d:=m.of d
 unfold aT.Vw aT.lJ at e
 refine cW<|bX (cs:=xm.enc) d fun g h d=>N3 (i:=i) (s:=s) r d fun h d=>?_
 cases hov:s.over with
 |true=>
  simp only[hov,e9] at e ⊢
  refine aH rfl<|aH rfl<|bX d fun f h d=>an (b:=f) d fun h d=>cG<|eV<|aM (c:=xm.enc) rfl ?_
  refine an (b:=g) d fun h d=>am g d (l:=xm.enc) rfl rfl (e _ d.to)
 |false=>
  have j:=E9 r hov
  simp only[hov,aO,c9] at e ⊢
  generalize t:hQ s.prog s.at'=x at e j
  refine aH rfl<|aH rfl<|bX d fun f h d=>an (b:=f) d fun h d=>cG<|cF<|aA<|ai f d rfl<|bK<|bC (fun k=>?_) fun k=>?_
  .rw[aXf k] at e;refine aM (c:=xm.enc) rfl<|an (b:=g) d fun h d=>am g d (l:=xm.enc) rfl rfl<|e _ d.to
  .rw[aae] at e;have⟨a,c,d⟩:=sY<|d.aN<|oT i p s;refine bD d fun u h d=>aB<|aA<|ai p d rfl<|aB<|aA<|aA<|ai p d rfl<|aA<|ai f d rfl<|aA<|ai f d rfl ?_;refine Dm (s:=s) (i:=i) (a:=a) (c:=c) d (j.r2 ER)<|aA<|ai f d rfl<|Dm (s:=s) (i:=i) (a:=a) (c:=c) d (j.r3 ER) ?_;refine aM (c:=(⟨i,s.bG,x.a,s.cX x.b.toNat,s.cX x.c.toNat⟩:Mc.Yc).enc) rfl<|an (b:=g) d fun h d=>am g d (l:=(⟨i,s.bG,x.a,s.cX x.b.toNat,s.cX x.c.toNat⟩:Mc.Yc).enc) rfl rfl<|e _ ?_;exact(nZ p i s (a:=a) (c:=c) d rfl rfl).to
def nu {x:fM} {e A:Nat} {code:Int} {k:AH->Nat->Prop} {y:Bool} (t:y=true) (H:0<=x.b/\x.b<4) (d:Hs G h (aG e 0 x.enc::aG A 0 Jy.enc::aG p 0 (oF i s a c)::Ya a c s.prog::L))
  (F:∀q z,Hs G z (aG q 0 (aT.ev s i x (s.cX x.b.toNat) 0 code).enc::aG e 0 x.enc::aG A 0 Jy.enc::aG p 0 (oF i s a c)::Ya a c s.prog::L)->k z q):
  bQ (vD h 4<|IE e) fun v0=>ID 163 [IE p,v0] h fun v1 B=>F4 B (.cells [I 0,I 0,I 0,I 0,I 0,I 0,I 0] 47 (0,0) true) fun f D=>bQ (vT D 7 (IE f) v1) fun E=>Uh y E 13 fun _ r=>
   bQ (iZ 2<|IE e) fun J=>bQ (sA r J) fun N=>bQ (pV<|IE p) fun v9=>bQ (iZ 0 v9) fun v10=>bQ (iZ 0 v10) fun v11=>bQ (qJ 4 1 v11 N) fun v12=>bQ (sA r v12) fun u=>bQ (iZ 4<|IE f) fun v=>bQ (vT r 1 v u) fun g=>bQ (iZ 6<|IE f) fun w=>bQ (vT g 1 w<|I code) fun j=>
   (rZ (I code) (I code)=true)/\k j f:=by
 refine am e d (l:=x.enc) rfl rfl<|Zp (a:=a) (c:=c) (s:=s) (i:=i) d fun h d=>bX d fun q h d=>an (b:=q) d fun h d=>bD (hc:=t) d fun O h d=>aA<|ai e d rfl ?_
 refine Dm (s:=s) (i:=i) (a:=a) (c:=c) d H<|aA<|ax (b:=q) (o:=0) d fun h d=>aA<|ax (b:=q) (o:=0) d fun h d=>dB jN<|F _ _ ?_
 exact(d.sg (b:=q) (o:=0) (c:=(aT.ev s i x (s.cX x.b.toNat) 0 code).enc) rfl).to
def zp {value code:Int} (J:s.Ok) (d:Hs G h L) [m:dH (oT i p) L s L']
  (j:∀F,Hs G F (oT i p (aT.cM s i value code).1::L')->Q (.tuple ⟨[.agg ⟨(aT.cM s i value code).2.1.enc⟩,I (aT.cM s i value code).2.2]⟩) F):ID 207 [IE p,I value,I code] h Q:=by
 have d:=m.of d
 have Y:=J.1
 have U:=J.2.1
 unfold aT.cM aT.lJ at j
 refine cW<|bX (cs:=Jy.enc) d fun g h d=>cZ<|cF<|bW<|N3 (i:=i) (s:=s) J d fun h d=>?_
 have bad:∀{h:AH} {M:HL} (e:Int),[C3 M (oT i p s::L')]->Hs G h (aG g 0 Jy.enc::M)->(∀F,Hs G F (oT i p s::L')->Q (.tuple ⟨[.agg ⟨Jy.enc⟩,I e]⟩) F)->
   bQ (rL [I 0,I 0,I 0,I 0,I 0,I 0,I 0] []) fun c5=>bQ (vT h 7 (IE g)<|.agg ⟨c5⟩) fun R=>bQ (vD R 7<|IE g) fun X=>Q (.tuple ⟨[X,I e]⟩) R:=by
  intro h M e _ d W
  refine aM (c:=Jy.enc) rfl<|an (b:=g) d fun h d=>am g d (l:=Jy.enc) rfl rfl<|W _ ?_
  exact d.tail.to
 cases hov:s.over with
 |true=>
  simp only[hov,e9] at j ⊢
  refine aH rfl<|aH rfl<|bX d fun f h d=>an (b:=f) d fun h d=>cG<|eV ?_
  exact bad (M:=oT i p s::L') 16 d.to j
 |false=>
  have D:=E9 J hov
  simp only[hov,aO,c9] at j ⊢
  generalize Z:hQ s.prog s.at'=x at j D
  refine aH rfl<|aH rfl<|bX d fun f h d=>an (b:=f) d fun h d=>cG<|cF<|aA<|ai f d rfl ?_
  have tail:∀{h:AH} {a:EN} {c q:Nat},(x.op=8\/M6 x.op=true/\(code=0\/code=19))->Hs G h (aG q 0 (aT.ev s i x (s.cX x.b.toNat) 0 code).enc::aG f 0 x.enc::aG g 0 Jy.enc::aG p 0 (oF i s a c)::Ya a c s.prog::L')->
    bQ (iZ 0<|IE f) fun r=>bQ (sA h r) fun t=>bQ (vX .eql t<|I 8) fun v20=>Br v20 (Dd 207 4 [] Q [IE p,I code,IE g,IE f,IE q] h) (Dd 207 5 [] Q [IE p,I value,I code,IE g,IE f,IE q] h):=by
   intro h a c q S d
   have u:∀{h:AH} {s':aT} {v:Ev},s'.prog=s.prog->Hs G h (aG q 0 v.enc::aG g 0 Jy.enc::aG p 0 (oF i s' a c)::Ya a c s.prog::L')->Hs G h (oT i p s'::aG q 0 v.enc::aG g 0 Jy.enc::L'):=by
    intro h s' v V d;exact nZ p i s' (a:=a) (c:=c) d rfl V.symm
   refine aA<|ai f d rfl<|bM<|bC (fun y=>?_) fun y=>bW ?_
   .simp[y,e9] at j;refine bW<|bD d fun O h d=>aA<|ai f d rfl<|Dm (s:=s) (i:=i) (a:=a) (c:=c) d (D.r3 ER)<|aA<|ax (b:=q) (o:=0) d fun h d=>bD d fun O h d=>aA<|ai f d rfl<|zK (s:=s) (a:=a) (c:=c) d (D.r2 ER) fun h d=>?_;refine aB<|aA<|aA<|ai p d rfl<|bI Fi ?_;exact nT (s:=s.dL x.b code) (v:=aT.ev s i x (s.cX x.b.toNat) (s.cX x.c.toNat) code) (x:=s.at'+1) rfl ER (u (s':=s.dL x.b code) rfl (d.sg (b:=q) (o:=0) (c:=(aT.ev s i x (s.cX x.b.toNat) (s.cX x.c.toNat) code).enc) rfl).to) j
   .have⟨z,S⟩:M6 x.op=true/\(code=0\/code=19):=by rcases S with h|h;exact absurd h y;exact h
    have N:=eo z
    have T:=D.r1 ER
    simp only[aXf y,z,e9] at j
    refine bM<|bC (fun w=>?_) fun w=>bW<|aA<|ai f d rfl<|bM<|bC (fun c4=>?_) fun c4=>?_
    .subst w;refine bW<|aB<|aA<|aA<|ai p d rfl<|aac ?_;exact nT (s:=s) (v:=aT.ev s i x (s.cX x.b.toNat) 0 19) (x:=s.at'+1) rfl ER (u (s':=s) rfl d.to) j
    .simp[aXf w,c4,e9] at j;have A:code=0:=ER
     subst A
     refine bW<|bD d fun O h d=>aA<|ai f d rfl<|Dm (s:=s) (i:=i) (a:=a) (c:=c) d T<|aA<|ax (b:=q) (o:=0) d fun h d=>aB<|aA<|aA<|ai p d rfl<|aac ?_
     exact nT (s:=s) (v:=aT.ev s i x (s.cX x.b.toNat) (s.cX x.a.toNat) 0) (x:=s.at'+1) rfl ER (u (s':=s) rfl (d.sg (b:=q) (o:=0) (c:=(aT.ev s i x (s.cX x.b.toNat) (s.cX x.a.toNat) 0).enc) rfl).to) j
    .simp[aXf w,aXf c4] at j;have A:code=0:=ER
     subst A
     refine bW<|aA<|ax (b:=q) (o:=0) d fun h d=>bD d fun O h d=>aA<|ai f d rfl<|zK (s:=s) (a:=a) (c:=c) d T fun h d=>aB<|aA<|aA<|ai p d rfl<|bI Fi ?_
     exact nT (s:=s.dL x.a value) (v:=aT.ev s i x (s.cX x.b.toNat) value 0) (x:=s.at'+1) rfl ER (u (s':=s.dL x.a value) rfl (d.sg (b:=q) (o:=0) (c:=(aT.ev s i x (s.cX x.b.toNat) value 0).enc) rfl).to) j
  have B:∀{h:AH} {M:HL},[C3 M L']->Hs G h (aG f 0 x.enc::aG g 0 Jy.enc::oT i p s::M)->∃a c,Hs G h (aG f 0 x.enc::aG g 0 Jy.enc::aG p 0 (oF i s a c)::Ya a c s.prog::L'):=by
   intro h M _ d;have⟨a,c,d⟩:=sY<|d.aN<|oT i p s;exact⟨a,c,d.to⟩
  have d:Hs G h (aG f 0 x.enc::aG g 0 Jy.enc::oT i p s::L'):=d.to
  refine bK<|bC (fun y=>?_) fun y=>?_
  .refine aA (ai f d rfl<|Ur<|cG<|eI<|dI (fun z=>?_) fun z=>?_)
   .have N:=eo z;have H:=D.r2 ER;refine bW (aA<|ai f d rfl<|bK<|bU y<|bK<|bC (fun P=>bK<|bC (fun E=>?_) fun E=>?_) fun P=>?_)
    .simp only[aXf y,z,e9] at j;rw[aXg ⟨P,E⟩] at j;exact bad (M:=oT i p s::L') 1 d.to j
    .have⟨a,c,d⟩:=B (M:=L') d;refine bW<|nu (k:=fun h q=>bQ (iZ 0<|IE f) fun r=>bQ (sA h r) fun t=>bQ (vX .eql t<|I 8) fun v20=>Br v20 (Dd 207 4 [] Q [IE p,I code,IE g,IE f,IE q] h)<|Dd 207 5 [] Q [IE p,I value,I code,IE g,IE f,IE q] h) EU H d fun q h d=>tail (.inr ⟨z,ER⟩) d
    .obtain⟨a,c,d⟩:=B (M:=L') d;exact nu (k:=fun h q=>bQ (iZ 0<|IE f) fun r=>bQ (sA h r) fun t=>bQ (vX .eql t<|I 8) fun v20=>Br v20 (Dd 207 4 [] Q [IE p,I code,IE g,IE f,IE q] h)<|Dd 207 5 [] Q [IE p,I value,I code,IE g,IE f,IE q] h) EU H d fun q h d=>tail (.inr ⟨z,ER⟩) d
   .simp[aXf y,z,aO,c9] at j;exact bad (M:=oT i p s::L') 16 d.to j
  .refine aA (ai f d rfl<|bK<|aaa ?_);obtain⟨a,c,d⟩:=B (M:=L') d;exact nu (k:=fun h q=>bQ (iZ 0<|IE f) fun r=>bQ (sA h r) fun t=>bQ (vX .eql t<|I 8) fun v20=>Br v20 (Dd 207 4 [] Q [IE p,I code,IE g,IE f,IE q] h)<|Dd 207 5 [] Q [IE p,I value,I code,IE g,IE f,IE q] h) EU (D.r2 ER) d fun q h d=>tail (.inl ER) d
end
variable {G:Bg} {h:AH}
theorem u9 {α:Type} {enc:α->EK} {l:List α}:(l.map enc).flatten=eL enc l:=by simp[eL,List.flatMap]
theorem Xo {e:TypeId} {l:HO} (hb:l.length<=1000) (b:Hs G h (C4 G 4 e v (l.map fM.enc)::L)) (f:∀a c d,Hs G d (Ya a c l::C4 G 4 e v (l.map fM.enc)::L)->Q (.slice a l.length c) d):ID 34 [v] h Q:=by
 refine cW (Ou b ET ES (by grind[u9,Kw]) ER fun a c h b=>f a c h ?_);rwa [u9] at b
theorem wi {e:TypeId} {pr:HO} (k:i<4) (l:0<=w/\w<=3) (g:Ob G 1 tF) (hc:(pB pr).2=0) (b:Hs G h (C4 G 4 e v (pr.map fM.enc)::L))
  (j:∀p d,Hs G d (oT i p (yB pr w)::C4 G 4 e v (pr.map fM.enc)::L)->Q (.tuple ⟨[IE p,I 0]⟩) d):ID 45 [I i,I w,v] h Q:=by
 have f:pr.length<=32:=by
  rw[pB] at hc;split at hc;cases hc;omega
 refine cW<|aQ<|aaa<|eQ<|aaa<|aQ<|aaa<|nU<|aaa<|bW<|Ip g b fun h b=>aH rfl<|aH rfl<|bK<|aaa<|bW ?_
 refine Xo ER b fun a c h b=>(aM (c:=oF i ⟨fun _=>0,0,0,_,pr⟩ a c) rfl<|dY b fun p h b=>aB<|aA<|aA<|ax b fun h b=>?_)
 have b:Hs G h (aG p 0 (oF i ⟨fun _=>0,0,w,_,pr⟩ a c)::Ya a c pr::C4 G 4 e v _::L):=b
 have b:=nZ p i _ b rfl rfl
 exact Jk (s:=⟨fun _=>0,0,w,_,pr⟩) ER b fun h b=>j _ _ b
end Go.Proofs.Z
namespace Go.Proofs.Z
open Go.Hm Go.At Go.Mc Go.Ct
variable {Cf:bT}
section
instance:Fx Ev.enc 7 where
 len _:=rfl
 cel _:=rfl
structure MN where
 lc:EM
 lk:EM
 lq:EM
 ac:EN
 ak:EN
 aq:EN
 al:EN
 cc:Nat
 ck:Nat
 cq:Nat
 cl:Nat
 hb:Nat
 mb:Nat
 fb:Nat
def fD (Cf:bT) (x:MN) (n:Nat):EK:=Cf.enc++[.slice x.ac x.lc.length x.cc,.slice x.ak x.lk.length x.ck,.slice x.aq x.lq.length x.cq,IE x.hb,IE x.mb,IE x.fb,.slice x.al n x.cl]
def ig (Cf:bT) (x:MN):Prop:=x.lc.length=Cf.aE.toNat/\x.lk.length=Cf.aE.toNat/\x.lq.length=Cf.aE.toNat
abbrev wO:Nat->Nat->aT->HP:=fun i p s=>oT i p s
abbrev rX (G:Bg) (Cf:bT):Nat->Nat->iJ->HP:=fun i p s=>C.jP G p Cf i s
abbrev rV (Cf:bT):Nat->Nat->lX->HP:=fun _ p s=>mV p Cf s
abbrev evs (a:EN) (c:Nat) (l:List Ev):HP:=ls Ev.enc 7 47 a c l
abbrev ptc (a:EN) (c:Nat) (l:EM):HP:=ls pE 1 114 a c l
abbrev iw (a:EN) (c:Nat) (l:EM):HP:=ls pE 1 117 a c l
abbrev gy (a:EN) (c:Nat) (l:EM):HP:=ls pE 1 132 a c l
def Qo (G:Bg) (Cf:bT) (m:Nat) (M:cN) (x:MN):HL:=[xG<|ig Cf x,aG m 0<|fD Cf x M.jW.length,ptc x.ac x.cc x.lc,iw x.ak x.ck x.lk,gy x.aq x.cq x.lq,
  qF wO x.lc M.aC,qF (rX G Cf) x.lk M.aJ,qF (rV Cf) x.lq M.aU,H.hJ G x.hb Cf M.aK,iD Cf x.mb M.dS,pU Cf x.fb M.bN,evs x.al x.cl M.jW]
def jG (G:Bg) (Cf:bT) (m:Nat) (x:MN) (M:cN):HP:=sp<|Qo G Cf m M x
def bO (G:Bg) (Cf:bT) (m:Nat) (M:cN):HP:=xC fun x:MN=>sp<|Qo G Cf m M x
variable {G:Bg} {h:AH} {M:cN}
def cY (a:Hs G h (bO G Cf m M::L)):∃x,ig Cf x/\Hs G h (aG m 0 (fD Cf x M.jW.length)::ptc x.ac x.cc x.lc::iw x.ak x.ck x.lk::gy x.aq x.cq x.lq::
  qF wO x.lc M.aC::qF (rX G Cf) x.lk M.aJ::qF (rV Cf) x.lq M.aU::H.hJ G x.hb Cf M.aK::iD Cf x.mb M.dS::pU Cf x.fb M.bN::evs x.al x.cl M.jW::L):=by
 have⟨x,a⟩:=a.uI
 have⟨hl,a⟩:=Hs.X6 a.dT
 exact⟨x,hl,a⟩
def Bj {x:MN} (a:ig Cf x) (b:Hs G h (aG m 0 (fD Cf x M.jW.length)::ptc x.ac x.cc x.lc::iw x.ak x.ck x.lk::gy x.aq x.cq x.lq::
  qF wO x.lc M.aC::qF (rX G Cf) x.lk M.aJ::qF (rV Cf) x.lq M.aU::H.hJ G x.hb Cf M.aK::iD Cf x.mb M.dS::pU Cf x.fb M.bN::evs x.al x.cl M.jW::L)):Hs G h (bO G Cf m M::L):=
 Hs.tG (A:=fun x:MN=>sp<|Qo G Cf m M x) x (Hs.kC (A:=Qo G Cf m M x)<|Hs.Xg a b)
def bP {x:MN} (M:cN) (t:ig Cf x) {f g j k l o q r a b:HL} (u:Hs G h L) [v:eR (aG m 0<|fD Cf x M.jW.length) L f] [w:eR (ptc x.ac x.cc x.lc) f L2] [y:eR (iw x.ak x.ck x.lk) L2 g] [z:eR (gy x.aq x.cq x.lq) g j] [A:eR (qF wO x.lc M.aC) j k] [B:eR (qF (rX G Cf) x.lk M.aJ) k l] [D:eR (qF (rV Cf) x.lq M.aU) l o] [E:eR (H.hJ G x.hb Cf M.aK) o q] [F:eR (iD Cf x.mb M.dS) q r] [d:eR (pU Cf x.fb M.bN) r a] [e:eR (evs x.al x.cl M.jW) a b]:Hs G h (bO G Cf m M::b):=
 Bj (x:=x) t (u.cR<|v.cR.trans<|(w.cR.trans<|(y.cR.trans<|(z.cR.trans<|(A.cR.trans<|(B.cR.trans<|(D.cR.trans<|(E.cR.trans<|(F.cR.trans<|(d.cR.trans<|(e.cR).cons _).cons _).cons _).cons _).cons _).cons _).cons _).cons _).cons _).cons _)
def jR {x:MN} (M:cN) (t:ig Cf x) {f g j k l o q r a b:HL} (u:Hs G h L) [v:eR (aG m 0<|fD Cf x M.jW.length) L f] [w:eR (ptc x.ac x.cc x.lc) f L2] [y:eR (iw x.ak x.ck x.lk) L2 g] [z:eR (gy x.aq x.cq x.lq) g j] [B:eR (qF wO x.lc M.aC) j k] [D:eR (qF (rX G Cf) x.lk M.aJ) k l] [E:eR (qF (rV Cf) x.lq M.aU) l o] [F:eR (H.hJ G x.hb Cf M.aK) o q] [I:eR (iD Cf x.mb M.dS) q r] [d:eR (pU Cf x.fb M.bN) r a] [e:eR (evs x.al x.cl M.jW) a b]:Hs G h (jG G Cf m x M::b):=
 Hs.kC (A:=Qo G Cf m M x) (Hs.Xg t<|u.cR<|v.cR.trans<|(w.cR.trans<|(y.cR.trans<|(z.cR.trans<|(B.cR.trans<|(D.cR.trans<|(E.cR.trans<|(F.cR.trans<|(I.cR.trans<|(d.cR.trans<|(e.cR).cons _).cons _).cons _).cons _).cons _).cons _).cons _).cons _).cons _).cons _)
def gT {x:MN} (a:Hs G h (jG G Cf m x M::L)):ig Cf x/\Hs G h (aG m 0 (fD Cf x M.jW.length)::ptc x.ac x.cc x.lc::iw x.ak x.ck x.lk::gy x.aq x.cq x.lq::
  qF wO x.lc M.aC::qF (rX G Cf) x.lk M.aJ::qF (rV Cf) x.lq M.aU::H.hJ G x.hb Cf M.aK::iD Cf x.mb M.dS::pU Cf x.fb M.bN::evs x.al x.cl M.jW::L):=Hs.X6 a.dT
def o6 (a:Hs G h (bO G Cf m M::L)):∃x,Hs G h (jG G Cf m x M::L):=a.uI
def aD4 {x:MN} (a:Hs G h (jG G Cf m x M::L)):Hs G h (bO G Cf m M::L):=Hs.tG (A:=fun x:MN=>sp<|Qo G Cf m M x) x a
def G4 {l:EM} (f:Hs G h L) [g:dH (ptc a c) L l L'] (b:i<l.length) (d:k (IE<|l.getD i 0)):bQ (mQ 1 (.slice a l.length c)<|I i) fun p=>bQ (sA h p) k:=
 aBw (e:=114) (show Hs G h (ptc a c l::L') from g.of f) b d
def Gv {l:EM} (f:Hs G h L) [g:dH (iw a c) L l L'] (b:i<l.length) (d:k (IE<|l.getD i 0)):bQ (mQ 1 (.slice a l.length c)<|I i) fun p=>bQ (sA h p) k:=
 aBw (e:=117) (show Hs G h (iw a c l::L') from g.of f) b d
def vx {l:EM} {k:AH->Prop} (g:Hs G h L) [j:dH (iw a c) L l L'] (d:i<l.length) (f:∀b,Hs G b (iw a c (l.set i q)::L')->k b):bQ (mQ 1 (.slice a l.length c)<|I i) fun p=>bQ (vT h 1 p<|IE q) k:=
 aGx (e:=117) (show Hs G h (iw a c l::L') from j.of g) d f
def Hf {l:EM} (f:Hs G h L) [g:dH (gy a c) L l L'] (b:i<l.length) (d:k (IE<|l.getD i 0)):bQ (mQ 1 (.slice a l.length c)<|I i) fun p=>bQ (sA h p) k:=
 aBw (e:=132) (show Hs G h (gy a c l::L') from g.of f) b d
def Xb {l:EM} {k:AH->Prop} (g:Hs G h L) [j:dH (gy a c) L l L'] (d:i<l.length) (f:∀b,Hs G b (gy a c (l.set i q)::L')->k b):bQ (mQ 1 (.slice a l.length c)<|I i) fun p=>bQ (vT h 1 p<|IE q) k:=
 aGx (e:=132) (show Hs G h (gy a c l::L') from j.of g) d f
def Ia {l:EM} {s:Nat->aT} {t:aT} (a:i<l.length) (b:Hs G h L) [k:eR (oT i (l.getD i 0) t) L L'] {N:HL} [d:eR (Fs wO l s i) L' N]:Hs G h (qF wO l (bJ s i t)::N):=Az a<|b.bZ (oT i (l.getD i 0) t)<|Fs wO l s i
def uo {l:List Ev} {v:Ev} {k:Value×AH->Prop} {N:HL} (hb:l.length<=2^30) (b:Hs G h L) [j:dH (evs a c) L l L'] [m2:eR (evs a2 c2 [v]) L' N]
  (g:∀d e f,Hs G f (evs d e (l++[v])::N)->k (.slice d (l++[v]).length e,f)):bQ (kH 7 56 47 h (.slice a l.length c)<|.slice a2 1 c2) k:=by
 have b:=j.of b
 exact jO (l:=l) (l2:=[v]) (a:=a) (c:=c) (a2:=a2) (c2:=c2) (b.cR<|m2.cR.cons _) EW fun d e h b=>g d e h b.oN.tail
end
section
variable {G:Bg} {h:AH} {M:cN}
theorem rD {v c:Int} (H:(i:Int)<Cf.aE) (B:(M.aC i).Ok) (k:M.jW.length<=2^30) (d:Hs G h L) [E:dH (bO G Cf m) L M L'] (g:∀A,Hs G A (bO G Cf m (M.cM i v c).1::L')->Q (I (M.cM i v c).2) A):ID 129 [IE m,I i,I v,I c] h Q:=by
 have⟨x,hl,d⟩:=cY<|E.of d;have f:i<x.lc.length:=by have:=hl.1;omega
 unfold cN.cM at g;refine cW<|aB<|aA<|ai m d rfl<|G4 d f ?_;have d:=gC (R:=wO) (l:=x.lc) (s:=M.aC) f d;refine zp (i:=i) (p:=x.lc.getD i 0) (s:=M.aC i) B d fun h d=>?_;have d:=Ia (l:=x.lc) (s:=M.aC) (i:=i) (t:=(aT.cM (M.aC i) i v c).1) f d;refine aH rfl<|aH rfl<|bX d fun q h d=>an (b:=q) d fun h d=>bK<|bC (fun u=>?_) fun u=>?_;rw[aXg u] at g;apply g _;have e:bJ M.aC i (aT.cM (M.aC i) i v c).1=M.aC:=by
  have:(aT.cM (M.aC i) i v c).1=M.aC i:=by
   rw[aT.cM] at u ⊢;cases hn:aT.lJ (M.aC i) with
   |none=>rfl
   |some y=>grind
  rw[this];funext j;rw[bJ];split;rename_i e;rw[e];rfl
 rw[e] at d;exact Bj hl d.to;rw[aXf u] at g;refine bW<|bD d fun F h d=>aB<|aA<|ai m d rfl<|am q d (l:=(aT.cM (M.aC i) i v c).2.1.enc) rfl rfl<|aM (c:=(aT.cM (M.aC i) i v c).2.1.enc) rfl ?_;refine mN (r:=F) (i:=6) (N:=11) (D:=[]) (W:=7) d rfl rfl rfl rfl rfl fun a h d=>?_;have d:=nH (enc:=Ev.enc) (x:=(aT.cM (M.aC i) i v c).2.1) d;refine uo (l:=M.jW) (v:=(aT.cM (M.aC i) i v c).2.1) k d fun w z h d=>aB<|aA<|ax (b:=m) (o:=0) d fun h d=>dB dP<|g _ ?_;have e:dU (fD Cf x M.jW.length) (0+13) [.slice w (M.jW++[(aT.cM (M.aC i) i v c).2.1]).length z]=fD Cf {x with al:=w,cl:=z} (M.jW++[(aT.cM (M.aC i) i v c).2.1]).length:=rfl;rw[e] at d;exact Bj (M:=(M.kI i (aT.cM (M.aC i) i v c).1).V2 (aT.cM (M.aC i) i v c).2.1) (x:={x with al:=w,cl:=z}) hl d.to
end
variable {G:Bg} {h:AH} {x:MN} {M:cN}
abbrev wtX (G:Bg) (Cf:bT) (m:Nat) (x:MN) (M:cN) (p2 p3 a:Nat) (co:Int) (e:Nat->Value) (d l:Nat) (st:LoopState×Option Code) (b:Bool) (pr:Prop):HP:=
 sp [xG pr,iI Pr 115 (iM 58) 32 e d l st,sp [aG p2 0 [IE m],aG p3 0 [I co],aG a 0 [.bool b]],jG G Cf m x M]
def S2 {co:Int} (hm:jL Cf M.dS) (f:Hs G h L) [mm:dH (jG G Cf m x) L M L'] (z:∀R,Hs G R (jG G Cf m x M::L')->Q (.bool<|M.aY co) R):ID 115 [IE m,I co] h Q:=by
 rw[cN.aY] at z;refine cW<|dY (mm.of f) fun t h f=>dY f fun u h f=>bX f fun j h f=>ai t f rfl<|cZ<|cF ?_;have⟨hl,f⟩:=gT<|f.aN<|jG G Cf m x M;refine bW<|ai t f rfl<|aB<|aA<|ai m f rfl<|G3 (C:=Cf) (m:=M.dS) f fun q U V h f=>?_;have f:=jR (m:=m) (x:=x) M hl f;refine jM f fun d h f=>?_;intro e he;refine kY f fun l h f=>pX rfl ?_;have f:Hs G h (H.Qb 3 q U V (M.dS.eE.map fun k:Nat=>(k:Int))::wtX G Cf m x M t u j co e d l (.ready,none) false (∀g∈([]:EL),M.dS.oX co g.toNat=false)::mk d ()::L'):=by
  have f:=(f.cT (aG t 0 [IE m]) (aG u 0 [I co])<|aG j 0 [.bool false]).Ry;have f:=f.cT (iI Pr 115 (iM 58) 32 e d l (.ready,none)) (sp [aG t 0 [IE m],aG u 0 [I co],aG j 0 [.bool false]])<|jG G Cf m x M;have f:=Hs.Jv<|Hs.Xg (p:=∀g∈([]:EL),M.dS.oX co g.toNat=false) EV f;exact f.to
 refine(H.D3 (e:=3) (p:=q) (a:=U) (c:=V) (xs:=M.dS.eE.map fun k:Nat=>(k:Int))<|by have:=rk (fun g=>(M.dS.lS g).isSome)<|List.range 16;simp[gV.eE] at this ⊢;omega).C2
  (X:=fun done=>wtX G Cf m x M t u j co e d l (.ready,none) false (∀g∈done,M.dS.oX co g.toNat=false)) (Z:=fun _ y=>wtX G Cf m x M t u j co e d l (.done,some .ret) true<|y∈(M.dS.eE.map fun k:Nat=>(k:Int))/\M.dS.oX co y.toNat=true) f ?_ ?_ ?_
 .intro done y h N S f;have⟨hd,f⟩:=iU f;have f:=f.B9;obtain⟨k,A,rfl⟩:∃k∈M.dS.eE,(k:Int)=y:=by
   obtain⟨ys,P⟩:=S;have:y∈M.dS.eE.map fun k:Nat=>(k:Int):=by rw[<-P];simp
   have⟨k,h1,h2⟩:=gL.1 this;exact⟨k,h1,h2⟩
  have⟨r,hr⟩:=cO.1 (uW.1 A).2;have D:M.dS.run (k:Int)=some r:=GU
  have B:M.dS.phase (k:Int)≠0:=by
   rw[gV.phase];rw[D];have:=(hm.run k r hr).2.2.1;dsimp only;omega
  have f:=(f.aN<|sp [aG t 0 [IE m],aG u 0 [I co],aG j 0 [.bool false]]).B9;have⟨hl,f⟩:=gT<|f.aN<|jG G Cf m x M;refine rW (qC f) he<|gD f fun h f=>ai t f rfl<|aB<|aA<|ai m f rfl<|aS0 (C:=Cf) (m:=M.dS) f fun a h f J W Y=>?_;rw[J B,D,c8 B];have f:=jR (m:=m) (x:=x) M hl f;refine aH rfl<|aH rfl<|bX f fun T h f=>bE (b:=T) (vs:=D7 r) f rfl rfl rfl rfl fun h f=>eV<|aA<|ai T f rfl<|ai u f rfl<|bM<|bC (fun F=>?_) fun F=>?_;refine an (b:=j) f fun h f=>iE f fun h f=> .inr ⟨rfl,?_⟩;refine(Hs.Jv<|Hs.Xg (p:=((k:Int)∈(M.dS.eE.map fun k:Nat=>(k:Int))/\M.dS.oX co ((k:Int)).toNat=true)) ⟨gL.2 ⟨k,A,rfl⟩,?_⟩<|((f.cT (aG t 0 [IE m]) (aG u 0 [I co])<|aG j 0 [.bool true]).Ry).cT (iI Pr 115 (iM 58) 32 e d l (.done,some .ret)) (sp [aG t 0 [IE m],aG u 0 [I co],aG j 0 [.bool true]])<|jG G Cf m x M).to;rw[gV.oX,aP,hr];exact c8 F
  .refine iE f fun h f=> .inl ⟨rfl,?_⟩;refine(Hs.Jv<|Hs.Xg (p:=∀g∈done++[((k:Nat):Int)],M.dS.oX co g.toNat=false) ?_<|((f.cT (aG t 0 [IE m]) (aG u 0 [I co])<|aG j 0 [.bool false]).Ry).cT (iI Pr 115 (iM 58) 32 e d l (.ready,none)) (sp [aG t 0 [IE m],aG u 0 [I co],aG j 0 [.bool false]])<|jG G Cf m x M).to;intro g w;rcases cL.1 w with w|w;exact hd g w;rw[c7.1 w,aP];rw[gV.oX,hr];exact ec F
 intro v h f;have⟨hd,f⟩:=iU<|f.aN<|wtX G Cf m x M t u j co e d l (.ready,none) false (∀g∈M.dS.eE.map (fun k:Nat=>(k:Int)),M.dS.oX co g.toNat=false);have f:=f.B9;have O:M.dS.qS co=false:=by
  rw[gV.qS];rw[DT];intro g w;have:=hd g<|gL.2 ⟨g,w,rfl⟩;rw[aP] at this;rw[this];simp
 rw[O] at z;have f:=(f.aN<|sp [aG t 0 [IE m],aG u 0 [I co],aG j 0 [.bool false]]).B9;exact kU f fun h f=>kW<|an (b:=j) f fun h f=>mH f fun h f=>kS<|ai j f rfl<|z _ f.to
 .intro done y v h S f;have⟨hd,f⟩:=iU<|f.aN<|wtX G Cf m x M t u j co e d l (.done,some .ret) true<|y∈(M.dS.eE.map fun k:Nat=>(k:Int))/\M.dS.oX co y.toNat=true;have f:=f.B9;have E:M.dS.qS co=true:=by
   rw[gV.qS];rw[DX];have⟨k,hk1,hk2⟩:=gL.1 hd.1;refine⟨k,hk1,?_⟩;have:=hd.2;rw[<-hk2,aP] at this;exact this
  rw[E] at z;have f:=(f.aN<|sp [aG t 0 [IE m],aG u 0 [I co],aG j 0 [.bool true]]).B9;exact Hl f fun h f=>aH8<|mH f fun h f=>kS<|ai j f rfl<|z _ f.to
end Go.Proofs.Z
end
