/- A part of the proof. -/
import Derived.Test.YtajjljbmfdboaaaGreatDoorR12
import Derived.Test.YtajjljbmfdboaaaGreatDoorR10
import Derived.Test.YtajjljbmfdboaaaGreatDoorR11
import Derived.Test.YtajjljbmfdboaaaGreatDoorR9
section
open Go Go.Ab
attribute [local irreducible] bG Br pK sD tZ Cq mN wW lR Rs gX mT rA rG pJ kU zA vE V9 V4 Ro Ps Vv Qm Jp Nb Vm lB oL tX jK copyV iQ xK V7 V8 Hn lG Nc Sp V2 oA rY yU Ao Cl yO Vx tE sC kJ hT setLoop cT
namespace Go.Proofs.YtajjljbmfdboaaaGreatDoor.A
open Go Go.Ab Go.Hm Go.At Go.Is
section
set_option maxRecDepth 100000
variable {G:Bg} {h:AH} {L L':List HP} {Q:Value->AH->Prop}
theorem aD9 {n c:Nat} {a:Option Addr} {cs:List Value} (k:n<=100) (i:Hs G h L) [m:Has (cN 2 155 a c) L (n,cs) L'] (g:∀d e f,Hs G f (cN 2 155 d e (n,cs)::cN 2 155 a c (n,cs)::L')->Q (.slice d n e) f):Cl Pr K 179 [.slice a n c] h Q:=
 cW (sF (bytes:=16) i (by omega) g)
theorem aE1 {n c:Nat} {a:Option Addr} {cs:List Value} (k:n<=100) (i:Hs G h L) [m:Has (cN 3 297 a c) L (n,cs) L'] (g:∀d e f,Hs G f (cN 3 297 d e (n,cs)::cN 3 297 a c (n,cs)::L')->Q (.slice d n e) f):Cl Pr K 178 [.slice a n c] h Q:=
 cW (sF (bytes:=40) i (by omega) g)
theorem aBy {n c:Nat} {a:Option Addr} {cs:List Value} (k:n<=100) (i:Hs G h L) [m:Has (cN 8 213 a c) L (n,cs) L'] (g:∀d e f,Hs G f (cN 8 213 d e (n,cs)::cN 8 213 a c (n,cs)::L')->Q (.slice d n e) f):Cl Pr K 187 [.slice a n c] h Q:=
 cW (sF (bytes:=80) i (by omega) g)
theorem aDt {n c:Nat} {a:Option Addr} {cs:List Value} (k:n<=100) (i:Hs G h L) [m:Has (cN 1 3 a c) L (n,cs) L'] (g:∀d e f,Hs G f (cN 1 3 d e (n,cs)::cN 1 3 a c (n,cs)::L')->Q (.slice d n e) f):Cl Pr K 94 [.slice a n c] h Q:=
 cW (sF (bytes:=8) i (by omega) g)
theorem aC6 {n c:Nat} {a:Option Addr} {cs:List Value} (k:n<=100) (i:Hs G h L) [m:Has (cN 4 86 a c) L (n,cs) L'] (g:∀d e f,Hs G f (cN 4 86 d e (n,cs)::cN 4 86 a c (n,cs)::L')->Q (.slice d n e) f):Cl Pr K 95 [.slice a n c] h Q:=
 cW (sF (bytes:=32) i (by omega) g)
theorem zo {v:Value} {l:List (List Value)} {e:TypeId} (k:l.length<=100) (hc:l.flatten.all eF=true) (i:Hs G h (Ae G 1 e v l::L)) (g:∀a d f,Hs G f (cN 1 3 a d (l.length,l.flatten)::Ae G 1 e v l::L)->Q (.slice a l.length d) f):Cl Pr K 94 [v] h Q:=
 cW (Ly (bytes:=8) i (by decide) rfl hc (by omega) g)
theorem yy {v:Value} {l:List (List Value)} {e:TypeId} (k:l.length<=100) (hc:l.flatten.all eF=true) (i:Hs G h (Ae G 4 e v l::L)) (g:∀a d f,Hs G f (cN 4 86 a d (l.length,l.flatten)::Ae G 4 e v l::L)->Q (.slice a l.length d) f):Cl Pr K 95 [v] h Q:=
 cW (Ly (bytes:=32) i (by decide) rfl hc (by omega) g)
def Gv (n B:Nat) (i:Nat) (x:BkA):List Value:=[I x.r,I x.w,.slice x.a (iB n B i) x.cap]
def ju (n B:Nat) (mem:Nat->Ln) (i:Nat) (x:BkA):HP:=cN 2 155 x.a x.cap (iB n B i,(List.range (iB n B i)).flatMap (M9 B i mem))
theorem X6 {n B p b o cap:Nat} {C:bP} {mem:Nat->Ln} {f:Nat->BkA} (hB:B<=4) (J:n<=32) (D:∀u,Hs G u (aG p 0 (C.enc++[.slice (some ⟨b,o,none⟩) B cap])::dF B (fun i=>fY n B b (o+i*3) i mem)::dF B (fun i=>ju n B mem i (f i))::L)->Q (pt p 0 0) u):
  ∀(r i:Nat) (h:AH) (_M:List HP),i+r=B->Hs G h (aG p 0 (C.enc++[.slice (some ⟨b,o,none⟩) B cap])::dF B (fun j=>if j<i then fY n B b (o+j*3) j mem else aG b (o+j*3) (Gv n B j (f j)))::dF B (fun i=>ju n B mem i (f i))::L)->
  Dd 137 2 [] Q [(pt p 0 0),(I B),(I i)] h:=by
 intro r
 induction r with
 |zero=>
  intro i h M z a
  obtain rfl:i=B:=by omega
  refine bW (bA (aab (D _ ?_)))
  have a:=a.front (dF i fun j=>if j<i then fY n i b (o+j*3) j mem else aG b (o+j*3) (Gv n i j (f j)))
  have a:=qB (g:=fun j=>fY n i b (o+j*3) j mem) (fun j A=>by rw[aJ7 A]) a
  exact a.cZ (aG p 0 (C.enc++[.slice (some ⟨b,o,none⟩) i cap])) (dF i fun j=>fY n i b (o+j*3) j mem) (dF i fun j=>ju n i mem j (f j))
 |succ r F=>
  intro i h M z a
  have e:i<B:=by omega
  have y:=Zh (n:=n) (B:=B) (i:=i) (by omega)
  refine bW (bA (aae (bW (aY a fun K h a=>?_))))
  have a:=(a.front (dF B fun j=>if j<i then fY n B b (o+j*3) j mem else aG b (o+j*3) (Gv n B j (f j)))).jX i e
  simp only[Nat.lt_irrefl,if_false] at a
  have a:=(a.front (dF B fun j=>ju n B mem j (f j))).jX i e
  refine aB (aA (am p a rfl (aB (aA (am p a rfl (dM e (aA (aD (b:=b) (o:=o+i*3) a rfl ?_))))))))
  have a:Hs G h (cN 2 155 (f i).a (f i).cap (iB n B i,(List.range (iB n B i)).flatMap (M9 B i mem))::_):=a
  refine aD9 (by omega) a fun q t h a=>?_
  refine dM e (aA (ay (b:=b) (o:=o+i*3) a fun x k=>?_))
  refine bT bZ (bT (aB bZ) (bT (aA bZ) (bT (am p a rfl Hq) (bT gF (aad ?_)))))
  refine F (i+1) x [] (by omega) ?_
  have k:=k.sg (b:=b) (o:=o+i*3) (c:=[I (f i).r,I (f i).w,.slice q (iB n B i) t]) rfl
  have d:=pM (b:=b) (o:=o+i*3) (k.cI (aG b (o+i*3) [I (f i).r,I (f i).w,.slice q (iB n B i) t]) (cN 2 155 q t (iB n B i,(List.range (iB n B i)).flatMap (M9 B i mem))))
  have v:fY n B b (o+i*3) i mem=(fun j=>if j<i+1 then fY n B b (o+j*3) j mem else aG b (o+j*3) (Gv n B j (f j))) i:=by simp only[Nat.lt_succ_self,if_true]
  rw[v] at d
  have d:=d.lA (n:=B) (i:=i) (fun j=>if j<i then fY n B b (o+j*3) j mem else aG b (o+j*3) (Gv n B j (f j))) (fun j=>if j<i+1 then fY n B b (o+j*3) j mem else aG b (o+j*3) (Gv n B j (f j))) e (fun j _ E=>by
   have:(j<i+1)=(j<i):=propext ⟨fun h=>by omega,fun h=>by omega⟩;simp only[this])
  have w:(cN 2 155 (f i).a (f i).cap (iB n B i,(List.range (iB n B i)).flatMap (M9 B i mem)))=(fun j=>ju n B mem j (f j)) i:=rfl
  rw[w] at d
  have d:=d.lA (n:=B) (i:=i) (fun j=>ju n B mem j (f j)) (fun j=>ju n B mem j (f j)) e (fun _ _ _=>rfl)
  exact d.to
theorem J0 {C:bP} (hC:C.Ok) {mb:Nat} {mem:Nat->Ln} (a:Hs G h L) [m:Has (eO G C.lines mb C) L mem L'] (w:∀t v,Hs G v (eO G C.lines t C mem::eO G C.lines mb C mem::L')->Q (pt t 0 0) v):Cl Pr K 137 [pt mb 0 0] h Q:=by
 have hb:=bP.bk hC;have u:=bP.fN hC;obtain⟨b,o,cap,a⟩:=wJ (m.of a);refine cW (dD (cG (bW (aY a fun z h a=>?_))));have q:Hs G h (dF C.aT.toNat (fun i=>vD fun x=>sp [aG b (o+i*3) (Gv C.lines C.aT.toNat i x),ju C.lines C.aT.toNat mem i x])::hole G 3 297 (some ⟨b,o,none⟩) cap C.aT.toNat b o::_):=a.cI (dF C.aT.toNat fun i=>fY C.lines C.aT.toNat b (o+i*3) i mem) (hole G 3 297 (some ⟨b,o,none⟩) cap C.aT.toNat b o);obtain⟨f,a⟩:=Hs.Q8 (W:=3) (c:=Gv C.lines C.aT.toNat) (d:=ju C.lines C.aT.toNat mem) (⟨0,0,none,0⟩:BkA) (fun _ _=>rfl) (fun _ _=>rfl) (by decide) hb.2.1 q;clear q;refine aB (aA (an mb a (l:=C.enc) rfl rfl (aB (aA (am mb a rfl ?_)))));refine aE1 (by omega) a fun y k h a=>?_;obtain⟨e,g,rfl,a⟩:=Hs.Q7 (W:=3) (c:=fun i=>Gv C.lines C.aT.toNat i (f i)) (fun _=>rfl) hb.2.1 a;refine aQ (c:=C.enc++[.slice (some ⟨e,g,none⟩) C.aT.toNat k]) rfl (xD a rfl rfl fun p h a=>?_);refine bT bZ (bT (aB bZ) (bT (aA bZ) (bT (an mb a (l:=C.enc) rfl rfl (oP (by simp[bP.enc,gF]))) ?_)));refine aB (aA (am p a rfl (bU ?_)));have a:=a.cZ (aG p 0 (C.enc++[.slice (some ⟨e,g,none⟩) C.aT.toNat k])) (dF C.aT.toNat fun i=>aG e (g+i*3) (Gv C.lines C.aT.toNat i (f i))) (dF C.aT.toNat fun i=>ju C.lines C.aT.toNat mem i (f i));have a:=(a.lK).cZ (aG p 0 (C.enc++[.slice (some ⟨e,g,none⟩) C.aT.toNat k])) (dF C.aT.toNat fun i=>aG e (g+i*3) (Gv C.lines C.aT.toNat i (f i))) (dF C.aT.toNat fun i=>ju C.lines C.aT.toNat mem i (f i));refine X6 (n:=C.lines) (B:=C.aT.toNat) (b:=e) (o:=g) (cap:=k) (C:=C) (mem:=mem) (f:=f) hb.2.2 u.2.2 ?_ C.aT.toNat 0 h [] (by omega) (by simpa using a);intro h a;refine w p _ ?_;have a:=sN (b:=e) (o:=g) (cap:=k) (a.cZ (aG p 0 (C.enc++[.slice (some ⟨e,g,none⟩) C.aT.toNat k])) (hole G 3 297 (some ⟨e,g,none⟩) k C.aT.toNat e g) (dF C.aT.toNat fun i=>fY C.lines C.aT.toNat e (g+i*3) i mem));have a:=a.cI (cN 3 297 (some ⟨b,o,none⟩) cap (C.aT.toNat,(List.range C.aT.toNat).flatMap fun i=>Gv C.lines C.aT.toNat i (f i))) (dF C.aT.toNat fun i=>ju C.lines C.aT.toNat mem i (f i));have a:Hs G h (dF C.aT.toNat (fun i=>fY C.lines C.aT.toNat b (o+i*3) i mem)::hole G 3 297 (some ⟨b,o,none⟩) cap C.aT.toNat b o::_):=Hs.Yz (W:=3) (c:=Gv C.lines C.aT.toNat) (d:=ju C.lines C.aT.toNat mem) f (fun _ _=>rfl) hb.2.1 a;have a:=sN (b:=b) (o:=o) (cap:=cap) (a.cZ (aG mb 0 (C.enc++[.slice (some ⟨b,o,none⟩) C.aT.toNat cap])) (hole G 3 297 (some ⟨b,o,none⟩) cap C.aT.toNat b o) (dF C.aT.toNat fun i=>fY C.lines C.aT.toNat b (o+i*3) i mem));exact a.to
end
section
set_option maxRecDepth 100000
variable {G:Bg} {h:AH} {L L':List HP} {Q:Value->AH->Prop}
def Zm (m:AM) (i:Nat) (x:Option Addr×Nat):List Value:=(m.aC i).core++[.slice x.1 (m.aC i).prog.length x.2]
def dp (m:AM) (i:Nat) (x:Option Addr×Nat):HP:=cN 4 86 x.1 x.2 ((m.aC i).prog.length,oR (m.aC i).prog)
theorem X3 {B p b o cap nn c mb:Nat} {a:Option Addr} {m:AM} {f:Nat->Option Addr×Nat} (hB:B<=4) (F:∀i,i<B->(m.aC i).prog.length<=32)
  (D:∀v,Hs G v (Ia p m.cfg (.slice (some ⟨b,o,none⟩) B cap) a nn c mb::dF B (fun i=>fU b (o+i*8) (m.aC i))::dF B (fun i=>dp m i (f i))::L)->Q (pt p 0 0) v):
  ∀(r i:Nat) (h:AH),i+r=B->Hs G h (Ia p m.cfg (.slice (some ⟨b,o,none⟩) B cap) a nn c mb::dF B (fun j=>if j<i then fU b (o+j*8) (m.aC j) else aG b (o+j*8) (Zm m j (f j)))::dF B (fun i=>dp m i (f i))::L)->
  Dd 150 2 [] Q [(pt p 0 0),(I B),(I i)] h:=by
 intro r
 induction r with
 |zero=>
  intro i h z d
  obtain rfl:i=B:=by omega
  refine bW (bA (aab (D _ ?_)))
  have d:=d.front (dF i fun j=>if j<i then fU b (o+j*8) (m.aC j) else aG b (o+j*8) (Zm m j (f j)))
  have d:=qB (g:=fun j=>fU b (o+j*8) (m.aC j)) (fun j A=>by rw[aJ7 A]) d
  exact d.cZ (Ia p m.cfg (.slice (some ⟨b,o,none⟩) i cap) a nn c mb) (dF i fun j=>fU b (o+j*8) (m.aC j)) (dF i fun j=>dp m j (f j))
 |succ r K=>
  intro i h z d
  have e:i<B:=by omega
  have J:=F i e
  refine bW (bA (aae (bW (aY d fun N h d=>?_))))
  have d:=(d.front (dF B fun j=>if j<i then fU b (o+j*8) (m.aC j) else aG b (o+j*8) (Zm m j (f j)))).jX i e
  simp only[Nat.lt_irrefl,if_false] at d
  have d:=(d.front (dF B fun j=>dp m j (f j))).jX i e
  refine aB (aA (am p d rfl (aB (aA (am p d rfl (dM e (aA (aD (b:=b) (o:=o+i*8) d rfl ?_))))))))
  have d:Hs G h (cN 4 86 (f i).1 (f i).2 ((m.aC i).prog.length,oR (m.aC i).prog)::_):=d
  refine aC6 (by omega) d fun t u h d=>?_
  refine dM e (aA (ay (b:=b) (o:=o+i*8) d fun y q=>?_))
  refine bT bZ (bT (aB bZ) (bT (aA bZ) (bT (am p d rfl Hq) (bT gF (aad ?_)))))
  refine K (i+1) y (by omega) ?_
  have q:=q.sg (b:=b) (o:=o+i*8) (c:=(m.aC i).core++[.slice t (m.aC i).prog.length u]) rfl
  have k:=tU (b:=b) (o:=o+i*8) (q.cI (aG b (o+i*8) ((m.aC i).core++[.slice t (m.aC i).prog.length u])) (cN 4 86 t u ((m.aC i).prog.length,oR (m.aC i).prog)))
  have w:fU b (o+i*8) (m.aC i)=(fun j=>if j<i+1 then fU b (o+j*8) (m.aC j) else aG b (o+j*8) (Zm m j (f j))) i:=by simp only[Nat.lt_succ_self,if_true]
  rw[w] at k
  have k:=k.lA (n:=B) (i:=i) (fun j=>if j<i then fU b (o+j*8) (m.aC j) else aG b (o+j*8) (Zm m j (f j))) (fun j=>if j<i+1 then fU b (o+j*8) (m.aC j) else aG b (o+j*8) (Zm m j (f j))) e (fun j _ E=>by
   have:(j<i+1)=(j<i):=propext ⟨fun h=>by omega,fun h=>by omega⟩;simp only[this])
  have x:(cN 4 86 (f i).1 (f i).2 ((m.aC i).prog.length,oR (m.aC i).prog))=(fun j=>dp m j (f j)) i:=rfl
  rw[x] at k
  have k:=k.lA (n:=B) (i:=i) (fun j=>dp m j (f j)) (fun j=>dp m j (f j)) e (fun _ _ _=>rfl)
  exact k.to
theorem Yj {m:AM} (D:m.Ok) {pm:Nat} (e:Hs G h L) [X:Has (nU G pm) L m L'] (U:∀p2 N,Hs G N (nU G p2 m::nU G pm m::L')->Q (pt p2 0 0) N):Cl Pr K 150 [pt pm 0 0] h Q:=by
 have S:m.cfg.aE<=4/\1<=m.cfg.aE:=⟨D.cfg.1.2,D.cfg.1.1⟩;have T:m.cfg.aN<=16:=D.cfg.2.1.2;have V:=D.bL;have F:0<m.cfg.aE.toNat:=by omega
 obtain⟨b,o,cap,a,c,mb,e⟩:=zV (X.of e);refine cW (dD (cG (bW (aY e fun rv h e=>?_))));have E:Hs G h (dF m.cfg.aE.toNat (fun i=>vD fun x=>sp [aG b (o+i*8) (Zm m i x),dp m i x])::hole G 8 213 (some ⟨b,o,none⟩) cap m.cfg.aE.toNat b o::_):=e.cI (dF m.cfg.aE.toNat fun i=>fU b (o+i*8) (m.aC i)) (hole G 8 213 (some ⟨b,o,none⟩) cap m.cfg.aE.toNat b o);obtain⟨f,e⟩:=Hs.Q8 (W:=8) (c:=Zm m) (d:=dp m) (none,0) (fun _ _=>rfl) (fun _ _=>rfl) (by decide) F E;clear E;refine aB (aA (an pm e (l:=m.cfg.enc) rfl rfl (aB (aA (am pm e rfl ?_)))));refine aBy (by omega) e fun O y Y u=>?_;refine aB (aA (am pm u rfl (aDt (by omega) u fun A c2 P g=>?_)));refine aB (aA (am pm g rfl (J0 D.cfg g fun q R k=>?_)));obtain⟨v,w,rfl,k⟩:=Hs.Q7 (W:=8) (c:=fun i=>Zm m i (f i)) (fun _=>rfl) F (k.front (cN 8 213 O y (m.cfg.aE.toNat,(List.range m.cfg.aE.toNat).flatMap fun i=>Zm m i (f i))));refine aQ (c:=m.cfg.enc++[.slice (some ⟨v,w,none⟩) m.cfg.aE.toNat y,.slice A m.bL.length c2,pt q 0 0]) rfl (xD k rfl rfl fun p J t=>?_);have z:nG (.agg ⟨m.cfg.enc⟩) (.agg ⟨m.cfg.enc⟩)=true:=oP (by simp[bP.enc,gF]);refine bT bZ (bT bZ (bT bZ (bT (aB bZ) (bT (aB bZ) (bT (aB bZ) (bT (aA bZ) (bT (aA bZ) (bT (aA bZ) ?_))))))));refine bT (an pm u (l:=m.cfg.enc) rfl rfl z) (bT (an pm g (l:=m.cfg.enc) rfl rfl z) (bT (an pm t (l:=m.cfg.enc) rfl rfl z) ?_));refine bT bZ (bT (aB bZ) (bT (aA bZ) (bT (am pm e rfl Hq) (bT bZ (bT bZ (bT (aB bZ) (bT (aB bZ) (bT (aA bZ) (bT (aA bZ) (bT (am pm e rfl bZ) (bT (am pm u rfl bZ) ?_)))))))))));clear e u g k;refine aB (aA (am p t rfl (bU ?_)));have e:=(t.cI (dF m.cfg.aE.toNat fun i=>aG v (w+i*8) (Zm m i (f i))) (dF m.cfg.aE.toNat fun i=>dp m i (f i)));have e:=e.cZ (Ia p m.cfg (.slice (some ⟨v,w,none⟩) m.cfg.aE.toNat y) A m.bL.length c2 q) (dF m.cfg.aE.toNat fun i=>aG v (w+i*8) (Zm m i (f i))) (dF m.cfg.aE.toNat fun i=>dp m i (f i));refine X3 (B:=m.cfg.aE.toNat) (b:=v) (o:=w) (cap:=y) (a:=A) (nn:=m.bL.length) (c:=c2) (mb:=q) (m:=m) (f:=f) (by omega) (fun i Z=>(D.aC i (by omega)).2.2.2.1) ?_ m.cfg.aE.toNat 0 J (by omega) (by simpa using e);intro h e;refine U p _ ?_;have e:=mJ (b:=v) (o:=w) (cap:=y) (a:=A) (c:=c2) (mb:=q) (m:=m) ((e.kG (Ia p m.cfg (.slice (some ⟨v,w,none⟩) m.cfg.aE.toNat y) A m.bL.length c2 q) (cN 1 3 A c2 (m.bL.length,m.bL.map I)) (eO G m.cfg.lines q m.cfg m.mem) (hole G 8 213 (some ⟨v,w,none⟩) y m.cfg.aE.toNat v w)).Xn (dF m.cfg.aE.toNat fun i=>fU v (w+i*8) (m.aC i)));have e:=e.cI (cN 8 213 (some ⟨b,o,none⟩) cap (m.cfg.aE.toNat,(List.range m.cfg.aE.toNat).flatMap fun i=>Zm m i (f i))) (dF m.cfg.aE.toNat fun i=>dp m i (f i));have e:Hs G h (dF m.cfg.aE.toNat (fun i=>fU b (o+i*8) (m.aC i))::hole G 8 213 (some ⟨b,o,none⟩) cap m.cfg.aE.toNat b o::_):=Hs.Yz (W:=8) (c:=Zm m) (d:=dp m) f (fun _ _=>rfl) F e;have e:=mJ (b:=b) (o:=o) (cap:=cap) (a:=a) (c:=c) (mb:=mb) (m:=m) ((e.kG (Ia pm m.cfg (.slice (some ⟨b,o,none⟩) m.cfg.aE.toNat cap) a m.bL.length c mb) (cN 1 3 a c (m.bL.length,m.bL.map I)) (eO G m.cfg.lines mb m.cfg m.mem) (hole G 8 213 (some ⟨b,o,none⟩) cap m.cfg.aE.toNat b o)).Xn (dF m.cfg.aE.toNat fun i=>fU b (o+i*8) (m.aC i)));exact e.to
end
section
set_option maxRecDepth 100000
variable {G:Bg} {h:AH} {L L':List HP} {Q:Value->AH->Prop}
def Ea (l:List Int):List (List Value):=l.map fun x=>[I x]
theorem oK (l:List Int):(Ea l).length=l.length:=by simp[Ea]
theorem Oq (l:List Int):(Ea l).flatten=l.map I:=by
 unfold Ea;induction l with
 |nil=>rfl
 |cons x l a=>rw[List.map_cons,List.flatten_cons,a];rfl
theorem W6 (l:List Int):(l.map I).all eF=true:=by
 induction l with
 |nil=>rfl
 |cons x l a=>rw[List.map_cons,List.all_cons,a];rfl
def U2 (p:List Ins):List (List Value):=p.map Ins.enc
theorem Ko (p:List Ins):(U2 p).length=p.length:=by simp[U2]
theorem N9 (p:List Ins):(U2 p).flatten=oR p:=by
 unfold U2 oR;rw[List.flatMap_def]
theorem Xj (p:List Ins):(oR p).all eF=true:=by
 unfold oR;induction p with
 |nil=>rfl
 |cons x l a=>rw[List.flatMap_cons,List.all_append,a];rfl
def F1 (G:Bg) (v:Value) (l:List Int):Prop:=uA G 1 v (Ea l).length (fun i=>(Ea l).getD i [])
def Ui (G:Bg) (v:Value) (p:List Ins):Prop:=uA G 4 v (U2 p).length (fun i=>(U2 p).getD i [])
structure Nv (G:Bg) (pv wv ov vv:Value) (ps:List (List Ins)) (ws os vs:List Int):Prop where
 ps:∃vi:List Value,vi.length=ps.length/\uA G 1 pv (vi.map fun x=>[x]).length (fun i=>(vi.map fun x=>[x]).getD i [])/\∀(i:Nat) (v:Value) (p:List Ins),vi[i]?=some v->ps[i]?=some p->Ui G v p
 ws:F1 G wv ws
 os:F1 G ov os
 vs:F1 G vv vs
theorem sH {v:Value} {l:List Int} (a:F1 G v l) (d:Hs G h L):Hs G h (Ae G 1 3 v (Ea l)::L):=Cs (by simp[Ea]) a d
theorem Sk {v:Value} {p:List Ins} (a:Ui G v p) (d:Hs G h L):Hs G h (Ae G 4 86 v (U2 p)::L):=Cs (by simp[U2,Ins.enc]) a d
theorem qN {W n:Nat} {v:Value} {at':Nat->List Value} {k:Value->Prop} (e:uA G W v n at') (d:k (I n)):bG (kU v) k:=by
 obtain⟨a,c,rfl,_⟩:=e;exact bU d
theorem Wu {_C:bP} {pv:Value} {t2 t3 t4 t5:Value} {q:List Value} {ps:List (List Ins)} (J:q.length=ps.length) (z:uA G 1 pv (q.map fun x=>[x]).length (fun i=>(q.map fun x=>[x]).getD i []))
  (w:∀(i:Nat) (v:Value) (p:List Ins),q[i]?=some v->ps[i]?=some p->Ui G v p) (u:Ob G 1 sI) (F:ps.length<=1000)
  (D:tN ps≠0->∀g,Hs G g L->Q (.tuple ⟨[.pointer none,I (tN ps)]⟩) g) (E:tN ps=0->∀g,Hs G g L->Dd 32 5 [] Q [pv,t2,t3,t4,t5] g):
  ∀(f i:Nat) (h:AH),i+f=ps.length->tN ps=tN (ps.drop i)->Hs G h L->Dd 32 3 [] Q [pv,t2,t3,t4,t5,pv,(I ps.length),(I i)] h:=by
 intro f
 induction f with
 |zero=>
  intro i h y a d
  rw[List.drop_of_length_le (by omega)] at a
  exact bW (bA (aab (E a _ d)))
 |succ f B=>
  intro i h y a d
  obtain⟨p,A,t⟩:=nA (l:=ps) (i:=i) (by omega)
  obtain⟨v,k,_⟩:=nA (l:=q) (i:=i) (by omega)
  rw[t,tN] at a
  have d:=Cs (e:=3) (by simp) z d
  refine bW (bA (aae (bW (zR d (x:=[v]) (by simp[k]) rfl (Ei (p:=p) u (Sk (w i v p k A) d.tail) fun h d=>aH rfl (aH rfl (bC (aX (fun c=>?_) (fun c=>?_)))))))))
  .rw[aJ7 c] at a;rw[<-a];exact D (by rw[a];exact c) _ d.tail
  .rw[aJ6 c] at a;exact bW (aad (B (i+1) h (by omega) a d.tail))
theorem X4 {C:bP} (hC:C.Ok) {t1 t2 t3 t5 vv:Value} {mb:Nat} {vs:List Int} (v:F1 G vv vs) (t:Ob G 0 eT) (z:vs.length=C.lines*2)
  (k:∀e,Hs G e (eO G C.lines mb C (words nH vs 0)::L)->Dd 32 11 [] Q [t1,t2,t3,t5,(pt mb 0 0)] e):
  ∀(f i:Nat) (mem:Nat->Ln) (h:AH),i+f=vs.length->words nH vs 0=words mem (vs.drop i) i->Hs G h (eO G C.lines mb C mem::L)->Dd 32 9 [] Q [t1,t2,t3,t5,(pt mb 0 0),vv,(I vs.length),(I i)] h:=by
 have u:=bP.fN hC
 intro f
 induction f with
 |zero=>
  intro i mem h q d a
  rw[List.drop_of_length_le (by omega),words] at d
  rw[d] at k
  exact bW (bA (aab (k _ a)))
 |succ f y=>
  intro i mem h q d a
  obtain⟨x,w,g⟩:=nA (l:=vs) (i:=i) (by omega)
  rw[g,words] at d
  have a:=sH v a
  refine bW (bA (aae (bW (zR a (x:=[I x]) (by simp[Ea,w]) rfl (Gf hC t a.tail (by omega) fun h a=>bC (aab (bW (aad (y (i+1) _ h (by omega) d a)))))))))
end
end Go.Proofs.YtajjljbmfdboaaaGreatDoor.A
namespace Go.Proofs.YtajjljbmfdboaaaGreatDoor.H
open Go Go.Ab Go.Hm
section
set_option maxRecDepth 100000
variable {G:Bg} {h:AH} {L L':List HP}
section
variable {hb p mb b o cap l:Nat} {C:bP} {H:kK} {n:aJ} {r:Row} {m:Ln} {Q:Value->AH->Prop}
theorem sq (hC:C.Ok) (d:Ob G 0 eT) (u:l<C.lines) (i:n.line=l) (hc:0<=r.served.core/\r.served.core<4) (a:Hs G h (qT G hb p mb b o cap l C H n r m++L))
  (g:∀v t,Hs G t (eP v ((r.lC n).rest l m).2::gM G hb C (aS H l (((r.lC n).rest l m).1,m))::L)->Q v t):Dd 253 8 [] Q [(pt hb 0 0),(pt p 0 0),(pt b (o+l*25) 0)] h:=by
 simp only[qT,List.cons_append,List.nil_append] at a
 obtain⟨w,x,a⟩:=dZ a
 refine bW (aY a ?_)
 intro y h a
 refine aA (aR a (by decide) (l:=[I n.d0,I n.d1]) rfl rfl (aB (aA (ay a ?_))))
 intro h a
 have q:=a
 refine aB (aA (ay a ?_))
 intro h a
 refine bT bZ (bT (aA bZ) (bT (aR q (by decide) (l:=[I n.d0,I n.d1]) rfl rfl (oP (by simp[nG]))) ?_))
 have a:=eC b (o+l*25) (r.lC n) w x a rfl rfl rfl
 have a:Hs G h (qT G hb p mb b o cap l C H n (r.lC n) m++L):=by
  simp only[qT,List.cons_append,List.nil_append];exact a.to
 have f:=a
 simp only[qT,List.cons_append,List.nil_append] at a
 have k:=a
 obtain⟨w,x,a⟩:=dZ a
 refine(aB (aA (aR a (by decide) (l:=[.bool (r.asked 0),.bool (r.asked 1),.bool (r.asked 2),.bool (r.asked 3)]) rfl rfl (aQ (c:=[.bool false,.bool false,.bool false,.bool false]) rfl (oa (dI (fun e=>?_) (fun e=>?_)))))))
 .have e:(r.lC n).quiet=false:=by unfold Row.quiet;rw[show(r.lC n).asked=r.asked from rfl,e];rfl
  simp only[Row.rest,e,Bool.false_eq_true,if_false] at g
  exact g _ _ (qI (eQ hb C H l (r.lC n) m _ mb b o cap u rfl k)).to
 .exact Wa (r:=r.lC n) hC d u i hc (by unfold Row.quiet;rw[show(r.lC n).asked=r.asked from rfl,e];rfl) f g
end
theorem vk {C:bP} (hC:C.Ok) {hb l:Nat} {H:kK} {n:aJ} {Q:Value->AH->Prop} (d:Ob G 0 eT) (a:Hs G h L) [m:Has (gM G hb C) L H L'] (q:l<C.lines) (i:n.line=l) (k:0<=n.core/\n.core<4) (hc:0<=(H l).1.served.core/\(H l).1.served.core<4)
  (f:∀v I,Hs G I (eP v (mA.mW (H l) l n).2::gM G hb C (aS H l (mA.mW (H l) l n).1)::L')->Q v I):
  Cl Pr K 253 [pt hb 0 0,.agg ⟨n.enc⟩] h Q:=by
 have a:=m.of a
 simp only[mA.mW] at f
 refine cW (dR a ?_)
 intro p h a
 refine aY a ?_
 intro O h a
 obtain⟨mb,b,o,cap,a⟩:=Em q (a.front (gM G hb C H))
 obtain⟨E,F,a⟩:=dZ a
 refine aB (aA (aD a rfl (aA (aD a rfl ?_))))
 rw[i]
 refine dM q (aY a ?_)
 intro N h a
 refine aA (aD a rfl (aB (aA (dX k.1 k.2 (aDu (H l).1 a rfl k ?_)))))
 intro h a
 have g:=eC b (o+l*25) ((H l).1.eY n) E F a rfl rfl rfl
 refine aB (aA (aA (aD a rfl (bC (aX (fun x=>bW ?_) (fun x=>bW ?_))))))
 .simp only[Row.heard,aJ7 x] at f;unfold Row.vJ at f;refine aA (aD g rfl (Fv g k fun h a=>?_));refine aA (aD a rfl (dI (fun t=>bW ?_) (fun t=>?_)))
  .rw[aJ7 ⟨x,t⟩] at f;refine aY a ?_;intro D h a;refine aB (aA (aD a rfl (aA (aD a rfl ?_))));rw[i];refine aA (aR a (by decide) (l:=M6 (n.d0,n.d1)) rfl rfl (Ej hC d a q fun h a=>?_));generalize A:((H l).1.eY n).leave n.core=r2 at a f;have w:0<=r2.served.core/\r2.served.core<4:=by rw[<-A];exact hc
   have a:Hs G h (qT G hb p mb b o cap l C H n r2 (n.d0,n.d1)++L'):=by
    simp only[qT,List.cons_append,List.nil_append];exact a.to
   have z:=a
   simp only[qT,List.cons_append,List.nil_append] at a
   have g:=a
   obtain⟨E,F,a⟩:=dZ a
   refine(aB (aA (aR a (by decide) (l:=[.bool (r2.asked 0),.bool (r2.asked 1),.bool (r2.asked 2),.bool (r2.asked 3)]) rfl rfl (aQ (c:=[.bool false,.bool false,.bool false,.bool false]) rfl (oa (dI (fun y=>?_) (fun y=>?_)))))))
   .have y:r2.quiet=false:=by unfold Row.quiet;rw[y];rfl
    simp only[Row.rest,y,Bool.false_eq_true,if_false] at f
    exact f _ _ (qI (eQ hb C H l r2 (n.d0,n.d1) _ mb b o cap q rfl g)).to
   .exact Wa hC d q i w (by unfold Row.quiet;rw[y];rfl) z f
  .rw[aJ6 (by rw[t];simp)] at f;generalize A:((H l).1.eY n).leave n.core=r2 at a f;have w:0<=r2.served.core/\r2.served.core<4:=by rw[<-A];exact hc
   refine Yl hC d q i w (m:=(H l).2) (H:=H) (mb:=mb) (b:=b) (o:=o) (cap:=cap) (L:=L') ?_ f
   simp only[qT,List.cons_append,List.nil_append,fA]
   exact a.to
 .have J:(H l).1.vJ (H l).2 n=(H l).2:=by unfold Row.vJ;rw[aJ6 (fun e=>x e.1)]
  simp only[Row.heard,aJ6 x,J] at f
  refine aA (aD a rfl (bC (aX (fun t=>bW ?_) (fun t=>bW ?_))))
  .simp only[aJ7 t] at f;refine aB (aA (ay a ?_));intro h a;refine aY a ?_;intro D h a;refine aA (aD a rfl (aA (aD a rfl (ug ?_))));have B:=a;refine aB (aA (dX k.1 k.2 (Wn {(H l).1.eY n with owner:= -1} a rfl k ?_)));intro h a;refine bT bZ (bT (aA bZ) (bT (aD B rfl gF) (bT (aB bZ) (bT (aA bZ) ?_))));have g:=eC b (o+l*25) (((H l).1.eY n).Dg n) E F a rfl rfl rfl;refine aA (aD a rfl (dI (fun u=>?_) (fun u=>?_)))
   .simp only[u,if_true] at f;refine sq (r:=((H l).1.eY n).Dg n) hC d q i hc (m:=(H l).2) (H:=H) (mb:=mb) (b:=b) (o:=o) (cap:=cap) (L:=L') ?_ f;simp only[qT,List.cons_append,List.nil_append,fA];exact g.to
   .simp only[u,Bool.false_eq_true,if_false] at f;refine Yl (r:=((H l).1.eY n).Dg n) hC d q i hc (m:=(H l).2) (H:=H) (mb:=mb) (b:=b) (o:=o) (cap:=cap) (L:=L') ?_ f;simp only[qT,List.cons_append,List.nil_append,fA];exact g.to
  .simp only[aJ6 t] at f;refine aA (aD a rfl (dI (fun u=>?_) (fun u=>?_)))
   .simp only[u,if_true] at f;refine sq (r:=(H l).1.eY n) hC d q i hc (m:=(H l).2) (H:=H) (mb:=mb) (b:=b) (o:=o) (cap:=cap) (L:=L') ?_ f;simp only[qT,List.cons_append,List.nil_append,fA];exact g.to
   .simp only[u,Bool.false_eq_true,if_false] at f;refine Yl (r:=(H l).1.eY n) hC d q i hc (m:=(H l).2) (H:=H) (mb:=mb) (b:=b) (o:=o) (cap:=cap) (L:=L') ?_ f;simp only[qT,List.cons_append,List.nil_append,fA];exact g.to
end
section
set_option maxRecDepth 100000
variable {G:Bg} {h:AH} {L L':List HP}
theorem Nz {b o:Nat} {line state x:Int} {r:Row} {Q:Value->AH->Prop} (a:Hs G h L) [m:Has (eN b o) L r L'] (e:∀v d,Hs G d (eP v (eG line state (r.gC x))::eN b o (r.hJ (r.gC x))::L')->Q v d):
  Cl Pr K 223 [pt b o 0,I x] h fun v d=>Cl Pr K 222 [pt b o 0,I line,I state,v] d Q:=by
 refine Xx (m.of a) fun p q h a=>?_
 have a:=Je (a.front (eN b o r))
 refine E6 (G:=G) (r:=r) (A:=Fk b o p q x r) (L:=L') ka Yg uO (by kernel_rfl) ?_ fun v h a=>e v h ?_
 .simp only[Fk];exact a.to
 .have a:=a.lK.unpack;have a:Hs G h (ff b o r::Lg b o (r.hJ (r.gC x))::eP v (eG line state (r.gC x))::L'):=a.to;exact(Ow (r:=r.hJ (r.gC x)) a).lK
theorem iw {b o:Nat} {line state:Int} {e:TypeId} {a:Option Addr} {c:Nat} {r:Row} {x:Int} {cs:List Value} {Q:Value->AH->Prop} (q:0<=x/\x<4) (d:Hs G h L) [m:Has (cN 1 e a c) L (1,cs) L'] (g:cs=[I x]) {M:List HP} [u:Has (eN b o) L' r M] (k:∀v f,Hs G f (eP v (eG line state [x.toNat])::eN b o (r.hJ [x.toNat])::M)->Q v f):
  Cl Pr K 118 [.slice a 1 c] h fun v f=>Cl Pr K 222 [pt b o 0,I line,I state,v] f Q:=by
 subst g
 have d:Hs G h (cN 1 e a c (1,[x].map I)::eN b o r::M):=d.perm (m.perm.trans (u.perm.cons _))
 refine Ot (e:=e) (xs:=[x]) rfl d fun p h d=>?_
 have d:=Je (d.front (eN b o r))
 have t:uc Pr K G 166 [] [pt p 0 0] (Ni e p a c [x]) ([x.toNat].map fun(c:Nat)=>[I c]):=by
  have:=Fy (G:=G) (e:=e) (p:=p) (a:=a) (c:=c) (xs:=[x]) (by simp);simp only[List.map_cons,List.map_nil,Int.toNat_of_nonneg q.1] at this ⊢;exact this
 refine E6 (G:=G) (r:=r) (A:=Ni e p a c [x]) (L:=ff b o r::M) t (fun c i=>by simp at i;omega) (by simp) (by kernel_rfl) ?_ fun v h d=>k v h ?_
 .exact d.to
 .have d:Hs G h (ff b o r::Lg b o (r.hJ [x.toNat])::eP v (eG line state [x.toNat])::M):=d.to;exact(Ow (r:=r.hJ [x.toNat]) d).lK
end
section
set_option maxRecDepth 100000
variable {G:Bg} {h:AH} {L L':List HP}
set_option maxHeartbeats 2000000 in
theorem zE {C:bP} (hC:C.Ok) {hb l:Nat} {H:kK} {n:aJ} {world:Int} {Q:Value->AH->Prop} (y:Ob G 0 eT) (d:Hs G h L) [m:Has (gM G hb C) L H L'] (x:l<C.lines) (F:0<=n.core/\n.core<4) (u: -1<=(H l).1.owner/\(H l).1.owner<4)
  (f:∀v w,Hs G w (eP v ((H l).1.get l (H l).2 n world).2::gM G hb C (aS H l (((H l).1.get l (H l).2 n world).1,(H l).2))::L')->Q v w):
  Cl Pr K 220 [pt hb 0 0,I l,I world,.agg ⟨n.enc⟩] h Q:=by
 have d:=m.of d
 simp only[Row.get] at f
 refine cW (dR d ?_)
 intro p h d
 obtain⟨mb,b,o,cap,d⟩:=Em x (d.front (gM G hb C H))
 obtain⟨z,A,d⟩:=dZ d
 refine aB (aA (aD d rfl (dM x (aY d ?_))))
 intro S h d
 refine aR d (by decide) (l:=n.enc) rfl rfl (aB (aA (ay d ?_)))
 intro h d
 have J:=d
 refine aB (aA (ay d ?_))
 intro h d
 refine aB (aA (ay d ?_))
 intro h d
 refine bT bZ (bT bZ (bT bZ (bT (aR J (by decide) (l:=n.enc) rfl rfl (oP (by simp[nG,aJ.enc]))) (bT gF (bT gF ?_)))))
 refine aA (aD d rfl (bH ?_))
 have d:=eC b (o+l*25) ((H l).1.serve n world) z A d rfl rfl rfl
 have g:((H l).1.serve n world).served.core=n.core:=rfl
 have u: -1<=((H l).1.serve n world).owner/\((H l).1.serve n world).owner<4:=u
 generalize R:(H l).1.serve n world=r at d f g u
 have eE:∀(k:Row),k.served.core=n.core->∀h,Hs G h (eN b (o+l*25) k::aG hb 0 (mK mb C b o cap)::eO G C.lines mb C (fun i=>(H i).2)::hole G 25 247 (some ⟨b,o,none⟩) cap C.lines b o::Ay b o C.lines H l::L')->
   (∀v w,Hs G w (eP v (k.eE l (k.sP (H l).2)).2::gM G hb C (aS H l ((k.eE l (k.sP (H l).2)).1,(H l).2))::L')->Q v w)->Cl Pr K 271 [pt hb 0 0,I l] h Q:=fun k E h d f=>by
  have d:=eQ hb C H l k (H l).2 _ mb b o cap x fA.symm d
  refine Es hC y d x (by simp only[cJ,E];exact F) fun v h d=>f _ _ ?_
  simp only[cJ,tV] at d
  exact d.to
 have q:∀(k:Row) (N:List aJ) v h,Hs G h (eP v N::eN b (o+l*25) k::aG hb 0 (mK mb C b o cap)::eO G C.lines mb C (fun i=>(H i).2)::hole G 25 247 (some ⟨b,o,none⟩) cap C.lines b o::Ay b o C.lines H l::L')->Hs G h (eP v N::gM G hb C (aS H l (k,(H l).2))::L'):=fun k N v h d=>
  (eQ hb C H l k (H l).2 _ mb b o cap x fA.symm d).to
 refine aX (fun B=>?_) (fun B=>?_)
 .simp only[aJ7 B,Row.getM,g] at f;refine bW (aA (aD d rfl (qX d fun d=>bC (aX (fun t=>?_) (fun t=>?_)))))
  .rw[aJ7 t] at f;refine aA (aD d rfl (Nz d fun v h d=>f _ _ ?_));exact q _ _ _ _ d.to
  .rw[aJ6 t] at f;exact eE r g _ d.to f
 .simp only[aJ6 B,Row.Tq] at f;refine bW (aY d ?_);intro P h d;obtain⟨z,A,d⟩:=dZ (d.front (eN b (o+l*25) r));refine aB (aA (aD d rfl (aA (aD d rfl (bH (aX (fun t=>bW ?_) (fun t=>bW ?_)))))))
  .have O:r.nQ={r with owner:= -1}:=by unfold Row.nQ;rw[aJ7 (by rw[g];exact t)]
   rw[O] at f
   simp only[ne_eq,not_true_eq_false,if_false] at f
   refine aB (aA (ay d ?_))
   intro h d
   refine aB (aA (aD d rfl (bC (aU (by simp) ?_))))
   have d:=eC b (o+l*25) {r with owner:= -1} z A d rfl rfl rfl
   exact eE {r with owner:= -1} g _ d.to f
  .have O:r.nQ=r:=by unfold Row.nQ;rw[aJ6 (by rw[g];exact t)]
   rw[O] at f
   refine aB (aA (aD d rfl (bC (aX (fun D=>?_) (fun D=>?_)))))
   .rw[aJ7 D] at f;refine aB (aA (aD d rfl (aQ (c:=[I r.owner]) rfl (dL d rfl rfl rfl ?_))));intro a h d;have d:=eC b (o+l*25) r z A d rfl rfl rfl;refine iw (e:=3) (by omega) d rfl fun v h d=>f _ _ ?_;exact q _ _ _ _ d.to
   .rw[aJ6 D] at f;have d:=eC b (o+l*25) r z A d rfl rfl rfl;exact eE r g _ d.to f
end
section
set_option maxRecDepth 100000
variable {G:Bg} {h:AH} {L L':List HP}
theorem xP {C:bP} {hb mb b o cap:Nat} {x:Int} {Q:Value->AH->Prop} (e:Hs G h L) [m:Has (aG hb 0) L (mK mb C b o cap) L'] (d:Q (.bool (decide (C.has x))) h):Cl Pr K 125 [pt hb 0 0,I x] h Q:=by
 refine cW (ui (eU (dW (aX (fun a=>?_) (fun a=>?_)))));refine aB (aA (aD e rfl (bU (bA ?_))));show Q _ _;rw[show decide (x<(C.lines:Int))=decide (C.has x) from decide_eq_decide.2 ⟨fun h=>⟨a,h⟩,fun h=>h.2⟩];exact d;show Q _ _;rw[show false=decide (C.has x) from(decide_eq_false (fun h=>a h.1)).symm];exact d
theorem Qu {C:bP} {H:kK} {b o l:Nat} (a:l<C.lines) (d:Hs G h L) [k:dY (dF C.lines fun i=>eN b (o+i*25) (H i).1) L L']:Hs G h (eN b (o+l*25) (H l).1::Ay b o C.lines H l::L'):=
 (d.front (dF C.lines fun i=>eN b (o+i*25) (H i).1)).jX l a
theorem B3 (C:bP) (H:kK) (hb mb b o cap:Nat) {a L2 d e:List HP} (f:Hs G h L) [g:dY (aG hb 0 (mK mb C b o cap)) L a] [k:dY (eO G C.lines mb C (fun i=>(H i).2)) a L2]
  [q:dY (hole G 25 247 (some ⟨b,o,none⟩) cap C.lines b o) L2 d] [t:dY (dF C.lines fun i=>eN b (o+i*25) (H i).1) d e]:Hs G h (gM G hb C H::e):=
 sQ (mb:=mb) (b:=b) (o:=o) (cap:=cap) (f.perm (g.perm.trans ((k.perm.trans ((q.perm.trans (t.perm.cons _)).cons _)).cons _)))
section
variable {C:bP} {hb mb b o cap p l:Nat} {H:kK} {n:aJ} {Q:Value->AH->Prop}
theorem aEb (hC:C.Ok) (u:Ob G 0 eT) (q:l<C.lines) (w:n.line=l) (t:0<=n.core/\n.core<4) (E:(H l).1.Inv) (J:(H l).1.waits.length<2^30)
  (d:Hs G h (aG p 0 n.enc::aG hb 0 (mK mb C b o cap)::eO G C.lines mb C (fun i=>(H i).2)::hole G 25 247 (some ⟨b,o,none⟩) cap C.lines b o::dF C.lines (fun i=>eN b (o+i*25) (H i).1)::L))
  (f:∀v B,Hs G B (eP v (mA.take (H l) l n).2.1::gM G hb C (aS H l (mA.take (H l) l n).1)::L)->Q (.tuple ⟨[v,I (mA.take (H l) l n).2.2]⟩) B):
  Dd 200 6 [] Q [(pt hb 0 0),(pt p 0 0)] h:=by
 unfold mA.take at f
 refine bW (aY d ?_)
 intro K h d
 have d:=Qu (H:=H) (b:=b) (o:=o) q d
 have same:∀h,Hs G h (eN b (o+l*25) (H l).1::Ay b o C.lines H l::aG p 0 n.enc::aG hb 0 (mK mb C b o cap)::eO G C.lines mb C (fun i=>(H i).2)::hole G 25 247 (some ⟨b,o,none⟩) cap C.lines b o::L)->Hs G h (eP (.slice none 0 0) []::gM G hb C (aS H l (H l))::L):=fun h d=>
  qI ((eQ hb C H l (H l).1 (H l).2 _ mb b o cap q fA.symm d).to)
 have F:Hs G h (eN b (o+l*25) (H l).1::Ay b o C.lines H l::aG p 0 n.enc::aG hb 0 (mK mb C b o cap)::eO G C.lines mb C (fun i=>(H i).2)::hole G 25 247 (some ⟨b,o,none⟩) cap C.lines b o::L):=d.to
 obtain⟨y,z,d⟩:=dZ d
 refine aB (aA (aD d rfl (aA (aD d rfl ?_))))
 rw[w]
 refine dM q (aA (aD d rfl (bH (aX (fun A=>bW ?_) (fun A=>bW ?_)))))
 .rw[aJ7 A] at f;refine aY d ?_;intro x h d;refine aB (aA (aD d rfl (cH (eB (dI (fun g=>?_) (fun g=>?_))))))
  .refine aB (aA (aA (aD d rfl (aA (aD d rfl (bC (aX (fun k=>?_) (fun k=>bW ?_))))))))
   .rw[aJ7 (.inr k)] at f;exact f _ _ (same _ (eC b (o+l*25) (H l).1 y z d rfl rfl rfl).to)
   .rw[aJ6 (by rw[g];simpa using k)] at f;have d:=eC b (o+l*25) (H l).1 y z d rfl rfl rfl;refine Zb d fun h d=>f _ _ ?_;exact qI ((eQ hb C H l (H l).1.free (H l).2 _ mb b o cap q fA.symm d).to)
  .rw[aJ7 (.inl g)] at f;exact f _ _ (same _ (eC b (o+l*25) (H l).1 y z d rfl rfl rfl).to)
 .rw[aJ6 A] at f;refine bH (aX (fun g=>bW ?_) (fun g=>bW ?_))
  .rw[aJ7 g] at f;refine aY d ?_;intro x h d;refine aA (aD d rfl (aB (aA (dX t.1 t.2 (aD d (v:= .bool ((H l).1.asked n.core.toNat)) ?_ (cH (eB (dI (fun k=>?_) (fun k=>?_)))))))))
   .have:n.core.toNat=0\/n.core.toNat=1\/n.core.toNat=2\/n.core.toNat=3:=by omega
    rcases this with e|e|e|e<;>rw[e]<;>rfl
   .rw[aJ6 (by rw[k];simp)] at f;refine aR d (by decide) (l:=n.enc) rfl rfl ?_;have d:=eC b (o+l*25) (H l).1 y z d rfl rfl rfl;have d:=eQ hb C H l (H l).1 (H l).2 _ mb b o cap q fA.symm d;rw[show aS H l ((H l).1,(H l).2)=H from qF] at d;exact vk hC u d q w t E.core fun v h d=>f _ _ d.to
   .rw[aJ7 k] at f;exact f _ _ (same _ (eC b (o+l*25) (H l).1 y z d rfl rfl rfl).to)
  .rw[aJ6 g] at f;refine aY d ?_;intro x h d;refine aB (aA (aD d rfl (aR d (by decide) (l:=n.enc) rfl rfl (aQ (c:=n.enc) rfl ?_))));refine jV d rfl rfl rfl rfl rfl ?_;intro a h d;refine nY d (by omega) ?_;intro a4 D h d;dsimp only;refine aB (aA (ay d ?_));intro h d;refine bT bZ (f _ _ ?_);have d:=eC b (o+l*25) ((H l).1.wait n) a4 D d (by simp[Row.enc,dN,Row.wait]) (by simp[Row.wait]) (by simp[xL,Row.wait]);exact qI ((eQ hb C H l ((H l).1.wait n) (H l).2 _ mb b o cap q fA.symm d).to)
end
end
section
set_option maxRecDepth 100000
variable {G:Bg} {h:AH} {L L':List HP}
section
variable {C:bP} {hb mb b o cap p l:Nat} {H:kK} {n:aJ} {Q:Value->AH->Prop}
theorem aEg (hC:C.Ok) (k:Ob G 0 eT) (x:yC C H (2^30 - 1)) {t:Value}
  (a:Hs G h (aG p 0 n.enc::aG hb 0 (mK mb C b o cap)::eO G C.lines mb C (fun i=>(H i).2)::hole G 25 247 (some ⟨b,o,none⟩) cap C.lines b o::dF C.lines (fun i=>eN b (o+i*25) (H i).1)::L)) (u:fI n.kind)
  (d:∀v w,Hs G w (eP v (fD C H n).2.1::gM G hb C (fD C H n).1::L)->Q (.tuple ⟨[v,I (fD C H n).2.2]⟩) w):Dd 200 4 [] Q [(pt hb 0 0),(pt p 0 0),t] h:=by
 unfold fD at d
 rw[aJ6 (by simpa using u)] at d
 have A:C.aE<=4:=hC.1.2
 have no:¬((0<=n.core/\n.core<C.aE)/\C.has n.line)->∀h,Hs G h (aG p 0 n.enc::aG hb 0 (mK mb C b o cap)::eO G C.lines mb C (fun i=>(H i).2)::hole G 25 247 (some ⟨b,o,none⟩) cap C.lines b o::dF C.lines (fun i=>eN b (o+i*25) (H i).1)::L)->Q (.tuple ⟨[.slice none 0 0,I 10]⟩) h:=fun B h a=>by
  rw[aJ6 B] at d;exact d _ _ (qI (B3 C H hb mb b o cap a)).to
 refine bW (aY a ?_)
 intro D h a
 refine aA (aD a rfl (bA (aX (fun y=>no (by omega) _ a.to) (fun y=>?_))))
 refine aA (aD a rfl (aB (aA (aA (aD a rfl (dW (aX (fun z=>no (by omega) _ a.to) (fun z=>?_))))))))
 refine aA (aD a rfl (xP a (cH (eB (aX (fun g=>?_) (fun g=>no (fun e=>g e.2) _ a.to))))))
 rw[aJ7 ⟨by omega,g⟩] at d
 obtain⟨l,q⟩:=Int.eq_ofNat_of_zero_le g.1
 have f:l<C.lines:=by have:=g.2;omega
 have e:n.line.toNat=l:=by omega
 rw[e] at d
 rw[q] at d
 dsimp only at d
 exact aEb (mb:=mb) (b:=b) (o:=o) (cap:=cap) hC k f q (by omega) (x l f).1 (by have:=(x l f).2;omega) a.to d
end
theorem Fg {C:bP} (hC:C.Ok) {hb:Nat} {H:kK} {n:aJ} {Q:Value->AH->Prop} (e:Ob G 0 eT) (y:yC C H (2^30 - 1)) (d:Hs G h L) [m:Has (gM G hb C) L H L']
  (f:∀v i,Hs G i (eP v (fD C H n).2.1::gM G hb C (fD C H n).1::L')->Q (.tuple ⟨[v,I (fD C H n).2.2]⟩) i):Cl Pr K 200 [pt hb 0 0,.agg ⟨n.enc⟩] h Q:=by
 refine cW (dR (m.of d) ?_)
 intro p h d
 obtain⟨mb,b,o,cap,d⟩:=rC d.lK
 have a:∀t,fI n.kind->Dd 200 4 [] Q [(pt hb 0 0),(pt p 0 0),t] h:=fun t g=>aEg (mb:=mb) (b:=b) (o:=o) (cap:=cap) hC e y d.to g f
 have no:¬fI n.kind->Q (.tuple ⟨[.slice none 0 0,I 15]⟩) h:=fun z=>by
  unfold fD at f;rw[aJ7 z] at f;exact f _ _ (qI (B3 C H hb mb b o cap d)).to
 refine dD (cG (bW (aA (aD d rfl (bH (aX (fun k=>bW (bS k (a _ (by unfold fI;omega)))) (fun k=>bW (bH (aX (fun q=>bW (bS q (a _ (by unfold fI;omega)))) (fun q=>bW ?_))))))))))
 refine bH (aX (fun u=>bW (bS u (a _ (by unfold fI;omega)))) (fun u=>bW ?_))
 refine bH (aX (fun w=>bW (bS w (a _ (by unfold fI;omega)))) (fun w=>bW ?_))
 exact bH (aX (fun x=>a _ (by unfold fI;omega)) (fun x=>no (by unfold fI;omega)))
theorem sa {C:bP} {hb:Nat} {H:kK} {x:Int} {Q:Value->AH->Prop} (q:yC C H (2^30 - 1)) (d:Hs G h L) [m:Has (gM G hb C) L H L']
  (e:∀i,Hs G i (gM G hb C (jA C H x).1::L')->Q (I (jA C H x).2) i):Cl Pr K 263 [pt hb 0 0,I x] h Q:=by
 obtain⟨mb,b,o,cap,d⟩:=rC (m.of d)
 unfold jA at e
 refine cW (dD (cG (bW (xP d (cH (eB (aX (fun f=>bW ?_) (fun f=>?_))))))))
 .rw[aJ7 f] at e;obtain⟨l,rfl⟩:=Int.eq_ofNat_of_zero_le f.1;simp only[mA.wo,Int.toNat_natCast] at e;have g:l<C.lines:=by have:=f.2;omega
  have d:=Qu (H:=H) (b:=b) (o:=o) g d
  obtain⟨u,v,d⟩:=dZ d
  have t:=(q l g).2
  refine aB (aA (aD d rfl (dM g (aB (aA (aD d rfl (aQ (c:=(mS l).enc) rfl (aQ (c:=(mS l).enc) rfl ?_))))))))
  refine dL d rfl rfl rfl ?_
  intro a h d
  refine nY d (by omega) ?_
  intro a4 k h d
  dsimp only
  refine aB (aA (ay d ?_))
  intro h d
  refine e _ ?_
  have d:=eC b (o+l*25) ((H l).1.wait (mS l)) a4 k d (by simp[Row.enc,dN,Row.wait]) (by simp[Row.wait]) (by simp[xL,Row.wait])
  exact(eQ hb C H l ((H l).1.wait (mS l)) (H l).2 _ mb b o cap g fA.symm d).to
 .rw[aJ6 f] at e;exact e _ (B3 C H hb mb b o cap d).to
structure X1 (G:Bg) (A:HP) (jv:Value) (j:Int->Int->Int×Bool):Prop where
 ne:∀k:Value->Prop,k (.bool false)->bG (Qm true .eql jv .nilIface) k
 may:∀(h:AH) (L M:List HP) (w l:Int) (Q:Value->AH->Prop),L.Perm (A::M)->Hs G h L->(∀h',Hs G h' L->Q (.tuple ⟨[I (j w l).1,.bool (j w l).2]⟩) h')->Cl Pr K 219 [jv,I w,I l] h Q
section
variable {C:bP} {hb mb b o cap p l:Nat} {H:kK} {n:aJ} {r:Row} {Q:Value->AH->Prop} {j:Int->Int->Int×Bool} {jv:Value}
def Kv (G:Bg) (hb p mb b o cap l:Nat) (C:bP) (H:kK) (n:aJ) (r:Row):List HP:=
 [eN b (o+l*25) r,aG p 0 n.enc,aG hb 0 (mK mb C b o cap),eO G C.lines mb C (fun i=>(H i).2),hole G 25 247 (some ⟨b,o,none⟩) cap C.lines b o,Ay b o C.lines H l]
theorem qz (q:l<C.lines) (g:n.kind≠3/\n.kind≠1/\n.kind≠2) (a:Hs G h (Kv G hb p mb b o cap l C H n r++L)) {t:Value}
  (d:∀v k,Hs G k (eP v (r.begun l (H l).2 n (fun w=>j w l)).2::gM G hb C (aS H l (r.begun l (H l).2 n (fun w=>j w l)).1)::L)->Q (.tuple ⟨[v,I 0]⟩) k):Dd 158 13 [] Q [(pt hb 0 0),(I l),jv,(pt b (o+l*25) 0),(pt p 0 0),t] h:=by
 unfold Row.begun at d
 rw[aJ6 g.1,aaa] at d
 simp only[Kv,List.cons_append,List.nil_append] at a
 refine bW (qX a fun a=>bH (aX (fun f=>?_) (fun f=>bW (aY a ?_))))
 .rw[aJ7 f] at d;exact d _ _ (qI ((eQ hb C H l r (H l).2 _ mb b o cap q fA.symm a).to))
 .rw[aJ6 f] at d;intro y h a;refine aR a (by decide) (l:=n.enc) rfl rfl ?_;obtain⟨u,x,a⟩:=dZ (a.front (eN b (o+l*25) r));refine aB (aA (ay a ?_));intro h a;have i:=a;refine aB (aA (ay a ?_));intro h a;refine bT bZ (bT (aR i (by decide) (l:=n.enc) rfl rfl (oP (by simp[nG,aJ.enc]))) ?_);have a:=eC b (o+l*25) (r.Mn n) u x a rfl rfl rfl;have e:(r.Mn n).gC (-1)=r.gC (-1):=rfl;refine Nz a fun v h a=>d _ _ ?_;rw[e] at a;exact(eQ hb C H l ((r.Mn n).hJ (r.gC (-1))) (H l).2 _ mb b o cap q fA.symm a).to
theorem S0 (hC:C.Ok) (f:Ob G 0 eT) {A:HP} {x:List HP} (y:X1 G A jv j) (hA:L.Perm (A::x)) (k:l<C.lines) (q:0<=n.core/\n.core<4) (t: -1<=r.owner/\r.owner<4) (i:n.kind=1\/n.kind=2) (d:Hs G h (Kv G hb p mb b o cap l C H n r++L))
  (e:∀v u,Hs G u (eP v (r.begun l (H l).2 n (fun w=>j w l)).2::gM G hb C (aS H l (r.begun l (H l).2 n (fun w=>j w l)).1)::L)->Q (.tuple ⟨[v,I 0]⟩) u):Dd 158 12 [] Q [(pt hb 0 0),(I l),jv,(pt p 0 0)] h:=by
 unfold Row.begun at e
 rw[aaa,aJ7 i] at e
 simp only[Kv,List.cons_append,List.nil_append] at d
 refine bW (aA (aD d rfl (y.may _ _ _ _ _ _ ((hA.append_left (Kv G hb p mb b o cap l C H n r)).trans List.perm_middle) d fun h d=>?_)))
 simp only[Kv,List.cons_append,List.nil_append] at d
 refine aH rfl (aH rfl (cH (eB (dI (fun g=>?_) (fun g=>?_)))))
 .rw[aJ7 g] at e;refine aR d (by decide) (l:=n.enc) rfl rfl ?_;have d:=eQ hb C H l r (H l).2 _ mb b o cap k fA.symm d;refine zE hC f d k q (by simp only[cJ];exact t) fun v h d=>e _ _ ?_;simp only[cJ,tV] at d;exact d.to
 .rw[aJ6 (by rw[g];simp)] at e;refine aA (aD d rfl (aQ (c:=(mP 9 n.core l).enc) rfl (aQ (c:=(mP 9 n.core l).enc) rfl (dL d rfl rfl rfl ?_))));intro a h d;refine e _ _ ?_;have d:=Dt (n:=mP 9 n.core l) rfl d;exact(eQ hb C H l r (H l).2 _ mb b o cap k fA.symm d).to
theorem yd (hC:C.Ok) (i:Ob G 0 eT) (k:l<C.lines) (g:0<=n.core/\n.core<4) (u:n.kind=3) (d:Hs G h (Kv G hb p mb b o cap l C H n r++L))
  (f:∀v x,Hs G x (eP v (r.begun l (H l).2 n (fun w=>j w l)).2::gM G hb C (aS H l (r.begun l (H l).2 n (fun w=>j w l)).1)::L)->Q (.tuple ⟨[v,I 0]⟩) x):Dd 158 6 [] Q [(pt hb 0 0),(I l),(pt b (o+l*25) 0),(pt p 0 0)] h:=by
 unfold Row.begun at f
 rw[aJ7 u] at f
 simp only[Kv,List.cons_append,List.nil_append] at d
 refine bW (aY d ?_)
 intro A h d
 obtain⟨y,z,d⟩:=dZ (d.front (eN b (o+l*25) r))
 refine aB (aA (aD d rfl (aA (aD d rfl (bH (aX (fun q=>?_) (fun q=>?_)))))))
 .have d:=eC b (o+l*25) r y z d rfl rfl rfl;refine aA (aD d rfl (dI (fun t=>bW (aY d ?_)) (fun t=>bW ?_)))
  .rw[aJ7 ⟨q,t⟩] at f;intro A h d;refine aB (aA (aD d rfl (aA (aR d (by decide) (l:=M6 (n.d0,n.d1)) rfl rfl (Ej hC i d k fun h d=>?_)))));refine aA (aD d rfl (Fv d g fun h d=>?_));refine aA (aD d rfl (aQ (c:=(mP 10 n.core l).enc) rfl (aQ (c:=(mP 10 n.core l).enc) rfl (dL d rfl rfl rfl ?_))));intro a h d;refine f _ _ ?_;have d:=Dt (n:=mP 10 n.core l) rfl d;exact(eQ hb C H l (r.leave n.core) (n.d0,n.d1) _ mb b o cap k rfl d).to
  .rw[aJ6 (by rw[t];simp)] at f;refine aA (aD d rfl (Fv d g fun h d=>?_));refine aA (aD d rfl (aQ (c:=(mP 10 n.core l).enc) rfl (aQ (c:=(mP 10 n.core l).enc) rfl (dL d rfl rfl rfl ?_))));intro a h d;refine f _ _ ?_;have d:=Dt (n:=mP 10 n.core l) rfl d;exact(eQ hb C H l (r.leave n.core) (H l).2 _ mb b o cap k fA.symm d).to
 .rw[aJ6 (fun e=>q e.1)] at f;have d:=eC b (o+l*25) r y z d rfl rfl rfl;refine aA (aD d rfl (Fv d g fun h d=>?_));refine aA (aD d rfl (aQ (c:=(mP 10 n.core l).enc) rfl (aQ (c:=(mP 10 n.core l).enc) rfl (dL d rfl rfl rfl ?_))));intro a h d;refine f _ _ ?_;have d:=Dt (n:=mP 10 n.core l) rfl d;exact(eQ hb C H l (r.leave n.core) (H l).2 _ mb b o cap k fA.symm d).to
end
theorem Fj {C:bP} (hC:C.Ok) {hb:Nat} {H:kK} {x:Int} {jv:Value} {j:Int->Int->Int×Bool} {N:Nat} {Q:Value->AH->Prop} (g:Ob G 0 eT) {A:HP} {U:List HP} (J:X1 G A jv j) (X:yC C H N) (a:Hs G h L) [m:Has (gM G hb C) L H L'] (hA:L'.Perm (A::U))
  (d:∀v T,Hs G T (eP v (hU C H x (fun w=>j w x)).2.1::gM G hb C (hU C H x (fun w=>j w x)).1::L')->Q (.tuple ⟨[v,I (hU C H x (fun w=>j w x)).2.2]⟩) T):Cl Pr K 158 [pt hb 0 0,I x,jv] h Q:=by
 obtain⟨mb,b,o,cap,a⟩:=rC (m.of a)
 unfold hU at d
 refine cW (dD (cG (bW (xP a (cH (eB (aX (fun y=>bW (J.ne _ (cG (bW ?_)))) (fun y=>?_))))))))
 rotate_left
 .rw[aJ6 y] at d;exact d _ _ (qI (B3 C H hb mb b o cap a)).to
 rw[aJ7 y] at d
 obtain⟨l,rfl⟩:=Int.eq_ofNat_of_zero_le y.1
 have k:l<C.lines:=by have:=y.2;omega
 simp only[Int.toNat_natCast] at d
 have a:=Qu (H:=H) (b:=b) (o:=o) k a
 obtain⟨R,S,a⟩:=dZ a
 have same:∀h,Hs G h (eN b (o+l*25) (H l).1::Ay b o C.lines H l::aG hb 0 (mK mb C b o cap)::eO G C.lines mb C (fun i=>(H i).2)::hole G 25 247 (some ⟨b,o,none⟩) cap C.lines b o::L')->Hs G h (eP (.slice none 0 0) []::gM G hb C (aS H l (H l))::L'):=fun h a=>
  qI ((eQ hb C H l (H l).1 (H l).2 _ mb b o cap k fA.symm a).to)
 unfold mA.begin at d
 refine aB (aA (aD a rfl (dM k (aB (aA (aD a rfl (dI (fun E=>?_) (fun E=>bW ?_))))))))
 .rw[aJ7 E] at d;exact d _ _ (same _ (eC b (o+l*25) (H l).1 R S a rfl rfl rfl).to)
 rw[aJ6 (by rw[E];simp)] at d
 refine aB (aA (aD a rfl (bU (bH (aX (fun F=>?_) (fun F=>bW ?_))))))
 .have q:(H l).1.waits=[]:=List.eq_nil_of_length_eq_zero (by omega);rw[q] at d;exact d _ _ (same _ (eC b (o+l*25) (H l).1 R S a rfl rfl rfl).to)
 .cases q:(H l).1.waits with
  |nil=>rw[q] at F;simp at F
  |cons n w=>
   rw[q] at d
   dsimp only at d
   have t:=(X l k).1
   have u:=t.waits n (by rw[q];exact List.mem_cons_self)
   have f:=a.front (cN 9 175 R S ((H l).1.waits.length,eM (H l).1.waits))
   rw[q] at f
   simp only[List.length_cons,J4] at f
   obtain⟨Y,Z,rfl,HH,B,_⟩:=f.oG (by omega)
   refine aB (aA (aD a rfl ?_))
   rw[q]
   refine dM (i:=0) (by simp) (Lq B (by decide) (l:=n.enc) (by simp[aJ.enc]) rfl ?_)
   clear B
   refine bQ f ?_
   intro p h a
   refine ax a ?_
   intro h a
   refine aB (aA (aD a rfl ?_))
   rw[q]
   refine wx (e:=175) a ?_
   intro V W a
   refine aB (aA (ay a ?_))
   intro h a
   have a:=eC b (o+l*25) ((H l).1.next w) V W a rfl rfl (by simp[Row.next,aJ.enc])
   have a:Hs G h (Kv G hb p mb b o cap l C H n ((H l).1.next w)++L'):=by
    simp only[Kv,List.cons_append,List.nil_append];exact a.to
   have z:=a
   simp only[Kv,List.cons_append,List.nil_append] at z
   refine aA (aD z rfl (bH (aX (fun O=>yd (j:=j) hC g k u O a d) (fun O=>bW (bH (aX (fun D=>bW (bS D (S0 (r:=(H l).1.next w) hC g J hA k u t.owner (.inl D) a d))) (fun D=>bW (bH (aX (fun P=>S0 (r:=(H l).1.next w) hC g J hA k u t.owner (.inr P) a d) (fun P=>qz k ⟨O,D,P⟩ a d))))))))))
end
end Go.Proofs.YtajjljbmfdboaaaGreatDoor.H
end
namespace Go.Proofs.YtajjljbmfdboaaaGreatDoor
open Go Go.Ab Go.Hm Go.At Go.Mc
section
theorem aCv {a b c d:Bool} {k:Value->Prop} (g:k (.bool (!(a||b||c||d)))) {f:Bool} (hc:f=true:=by kernel_rfl):Nb f [1,1,1,1] .eql (.agg ⟨[.bool a,.bool b,.bool c,.bool d]⟩) (.agg ⟨[.bool false,.bool false,.bool false,.bool false]⟩) k:=by
 have e:Jp [1,1,1,1] .eql (.agg ⟨[.bool a,.bool b,.bool c,.bool d]⟩) (.agg ⟨[.bool false,.bool false,.bool false,.bool false]⟩)=some (.bool (!(a||b||c||d))):=by cases a<;>cases b<;>cases c<;>cases d<;>kernel_rfl
 exact⟨hc,_,e,g⟩
set_option maxRecDepth 100000
attribute [local irreducible] bG Br pK sD tZ Cq mN wW lR Rs gX mT rA rG pJ kU zA vE V9 V4 Ro Ps Vv Qm Jp Nb Vm lB oL tX jK copyV iQ xK V7 V8 Hn lG Nc Sp V2 oA rY yU Ao Cl yO Vx tE sC kJ hT setLoop cT
variable {G:Bg} {h:AH} {L L' M:List HP} {Q:Value->AH->Prop} {C:bP} {m:Mon} {p:Nat}
theorem Qq {g:Int} (d:iA C m) (hC:C.Ok) (a:m.has g):∃n:Nat,g=n/\n<m.dQ.length/\n<16:=by
 have:=d.len;have:=hC.2.1;unfold Mon.has at a;exact⟨g.toNat,by omega,by omega,by omega⟩
theorem jt {r:Mc.jE} {i:Nat} (a:i<4):dN r.enc (0+8+i*1) [.bool false]=(r.heard i).enc:=by
 have:i=0\/i=1\/i=2\/i=3:=by omega
 rcases this with rfl|rfl|rfl|rfl<;>rfl
theorem O7 {f:Nat->Option Mc.jE} {g:Nat} {r:Mc.jE}:Jd (gB f) g (some (.agg ⟨r.enc⟩))=gB (aS f g (some r)):=Gs (x:=some r)
theorem No {g core:Int} (hC:C.Ok) (F:iA C m) (a:Hs G h L) [J:Has (fV C p) L m L'] (d:∀y,Hs G y (fV C p (m.dropped C.aE g core).1::L')->Q (.tuple ⟨[.bool (m.dropped C.aE g core).2.1,I (m.dropped C.aE g core).2.2]⟩) y):Cl Pr K 210 [pt p 0 0,I g,I core] h Q:=by
 have O:=hC.1;unfold Mon.dropped at d;obtain⟨t,b,a⟩:=kV (J.of a);refine cW (dD (cG (bW (aB (aA (am p a rfl (Bw (m:=m) a fun h a=>?_)))))));by_cases w:m.has g;rotate_left;rw[aJ6 w];rw[aJ7 w] at d;exact aH rfl (aH rfl (bQ a fun q h a=>ax (b:=q) a fun h a=>bC (aae (d _ (dU (t:=t) (b:=b) a.to)))));rw[aJ7 w];rw[aJ6 (by simpa using w)] at d;obtain⟨n,rfl,P,u⟩:=Qq F hC w;refine aH rfl (aH rfl (bQ a fun q h a=>ax (b:=q) a fun h a=>bC (aab (bW (aB (aA (am p a rfl (Ox (m:=m) a (bQ a fun v h a=>ax (b:=v) a fun h a=>aA (am v a rfl (bC (aX (fun k=>?_) (fun k=>?_)))))))))))));cases hr:m.run (n:Int) with
 |none=>rw[hr] at d;exact d _ (dU (t:=t) (b:=b) a.to)
 |some r=>
  rw[hr] at k d;simp only[Option.getD_some] at k;dsimp only at d;rw[aJ7 k] at d;exact d _ (dU (t:=t) (b:=b) a.to)
 cases hr:m.run (n:Int) with
 |none=>rw[hr] at k;exact absurd (show(0:Int)≠1 by omega) k
 |some r=>
 rw[hr] at k a d;simp only[Option.getD_some] at k a;dsimp only at d;rw[aJ6 k] at d;by_cases z:0<=core/\core<C.aE;rotate_left;rw[aJ7 (Or.inl z)] at d;refine bW (bA (aX (fun B=>d _ (dU (t:=t) (b:=b) a.to)) fun B=>aB (aA (am p a rfl (dW (aae (d _ (dU (t:=t) (b:=b) a.to))))))));obtain⟨i,rfl⟩:=Int.eq_ofNat_of_zero_le z.1;have D:i<4:=by omega
 have x:r.enc[0+8+i*1]?=some (.bool (r.waits i)):=by
  have:i=0\/i=1\/i=2\/i=3:=by omega
  rcases this with rfl|rfl|rfl|rfl<;>rfl
 refine bW (bA (aab (aB (aA (am p a rfl (dW (aab (aA (fQ (by omega) (am v a x (cH (eB ?_))))))))))));rw[Int.toNat_natCast] at d;cases hw:r.waits i with
 |false=>
  rw[aJ7 (Or.inr hw)] at d;exact cG (d _ (dU (t:=t) (b:=b) a.to))
 |true=>
 rw[aJ6 (by rw[hw];simp;omega)] at d;have E:r.enc.length=12:=rfl;refine eU (bW (aA (fQ (by omega) (bJ (b:=v) (o:=0) a rfl (by rw[E];exact Nat.ble_eq_true_of_le (by simp;omega)) rfl rfl fun h a=>?_))));rw[jt D] at a;refine aA (kB (b:=v) (o:=0) a (by decide) (l:=[.bool ((r.heard i).waits 0),.bool ((r.heard i).waits 1),.bool ((r.heard i).waits 2),.bool ((r.heard i).waits 3)]) rfl rfl (aQ (c:=[.bool false,.bool false,.bool false,.bool false]) rfl (aCv (dI (fun f=>?_) (fun f=>?_)))));have e:({(r.heard i) with phase:=2}:Mc.jE)=(r.heard i).gZ:=by unfold jE.gZ;rw[show(r.heard i).none=true from f];rfl
 refine bW (aA (ay (b:=v) (o:=0) a fun h a=>aY a fun N h a=>?_));have A:dN (r.heard i).enc (0+7) [I 2]=({(r.heard i) with phase:=2}:Mc.jE).enc:=rfl;rw[A,e] at a;refine aB (aA (am p a rfl (an v a (l:=(r.heard i).gZ.enc) rfl rfl (Ra a u fun h a=>?_))));rw[O7] at a;have a:Hs G h (fV C p (m.cR n (some (r.heard i).gZ))::L'):=(dU (m:=m.cR n (some (r.heard i).gZ)) (a.cZ (aG p 0 [pt t 0 0,I C.aE,gH b]) (gW t m.dQ) (iJ b (gB (aS m.runs n (some (r.heard i).gZ)))))).to;have:=d h a;rw[f];rw[show(r.heard i).none=true from f] at this;exact this;have e:r.heard i=(r.heard i).gZ:=by unfold jE.gZ;rw[show(r.heard i).none=false from f];rfl
 rw[e] at a;refine bW (aY a fun N h a=>aB (aA (am p a rfl (an v a (l:=(r.heard i).gZ.enc) rfl rfl (Ra a u fun h a=>?_)))));rw[O7] at a;have a:Hs G h (fV C p (m.cR n (some (r.heard i).gZ))::L'):=(dU (m:=m.cR n (some (r.heard i).gZ)) (a.cZ (aG p 0 [pt t 0 0,I C.aE,gH b]) (gW t m.dQ) (iJ b (gB (aS m.runs n (some (r.heard i).gZ)))))).to;have:=d h a;rw[f];rw[show(r.heard i).none=false from f] at this;exact this
theorem nk {n:Nat} {r:Mc.jE} (h:m.run (n:Int)=some r):m.runs n=some r:=by
 unfold Mon.run at h;rw[aac] at h;exact h
theorem Yc {g:Int} (hC:C.Ok) (E:iA C m) (a:Hs G h L) [N:Has (fV C p) L m L'] (d:∀v,Hs G v (fV C p (m.over g).1::L')->Q (.tuple ⟨[.agg ⟨nD ((m.over g).2.1.getD B7)⟩,I (m.over g).2.2]⟩) v):Cl Pr K 159 [pt p 0 0,I g] h Q:=by
 unfold Mon.over at d;refine cW (bQ (cs:=nD B7) (N.of a) fun u h a=>?_);obtain⟨t,b,a⟩:=kV (a.front (fV C p m));refine dD (cG (bW (aB (aA (am p a rfl (Bw (m:=m) a fun h a=>?_))))));have bad:∀{h:AH} {M:List HP} {e:Int},[Sub M L']->Hs G h (aG u 0 (nD B7)::aG p 0 [pt t 0 0,I C.aE,gH b]::gW t m.dQ::iJ b (gB m.runs)::M)->(∀v,Hs G v (fV C p m::L')->Q (.tuple ⟨[.agg ⟨nD B7⟩,I e]⟩) v)->
   bG (oN [(I 0),(I 0),(I 0),(I 0),(I 0),(I 0),(.bool false)] []) fun A=>bG (tZ h 7 (pt u 0 0) (.agg ⟨A⟩)) fun w=>bG (sD w 7 (pt u 0 0)) fun B=>Q (.tuple ⟨[B,I e]⟩) w:=by
  intro h M e _ a J
  exact aQ (c:=nD B7) rfl (ax (b:=u) a fun h a=>an u a (l:=nD B7) rfl rfl (J _ (dU (t:=t) (b:=b) a.to)))
 by_cases y:m.has g;rotate_left;rw[aJ6 y];rw[aJ7 y] at d;exact aH rfl (aH rfl (bQ a fun q h a=>ax (b:=q) a fun h a=>bC (aae (bad (M:=L') a.to d))));rw[aJ7 y];rw[aJ6 (by simpa using y)] at d;obtain⟨n,rfl,R,F⟩:=Qq E hC y;refine aH rfl (aH rfl (bQ a fun q h a=>ax (b:=q) a fun h a=>bC (aab (bW (aB (aA (am p a rfl (Ox (m:=m) a (bQ a fun z h a=>ax (b:=z) a fun h a=>aA (am z a rfl (bC (aX (fun k=>?_) (fun k=>?_)))))))))))));cases hr:m.run (n:Int) with
 |none=>rw[hr] at d;exact bad (M:=L') a.to d
 |some r=>
  rw[hr] at k d;simp only[Option.getD_some] at k;dsimp only at d;rw[aJ7 k] at d;exact bad (M:=L') a.to d
 cases hr:m.run (n:Int) with
 |none=>rw[hr] at k;exact absurd (show(0:Int)≠2 by omega) k
 |some r=>
 rw[hr] at k a d;simp only[Option.getD_some] at k a;dsimp only at d;rw[aJ6 k] at d;obtain⟨S,O,T,U,P⟩:=E.run n r (nk hr);refine bW (aY a fun V h a=>aB (aA (am p a rfl (aA (aA (aA (am z a rfl (aA (aA (am z a rfl (aQ (c:=(⟨r.then',false⟩:hZ).enc) rfl (F6 (x:=⟨r.then',false⟩) a fun h a=>?_))))))))))));have i:(0<=r.bK/\r.bK<m.dQ.length)/\(0<=r.then'/\r.then'<=4):=⟨by rw[O];omega,P⟩;rw[aJ7 i] at a;rw[aJ7 i];refine bC (aab (bW (aB (aA (am p a rfl (aCs a fun h a=>aA (an z a (l:=nD r) rfl rfl (ax (b:=u) a fun h a=>an u a (l:=nD r) rfl rfl (d _ ?_)))))))));have D:=Gs (f:=m.runs) (g:=n) (x:=none);rw[Option.map_none] at D;rw[D] at a;have a:Hs G h (fV C p ((m.pZ r.bK.toNat ⟨r.then',false⟩).cR n none)::L'):=(dU (m:=(m.pZ r.bK.toNat ⟨r.then',false⟩).cR n none) (a.cZ (aG p 0 [pt t 0 0,I C.aE,gH b]) (gW t (m.dQ.set r.bK.toNat ⟨r.then',false⟩)) (iJ b (gB (aS m.runs n none))))).to;exact a
end
end Go.Proofs.YtajjljbmfdboaaaGreatDoor
section
open Go Go.Ab
attribute [local irreducible] bG Br pK sD tZ Cq mN wW lR Rs gX mT rA rG pJ kU zA vE V9 V4 Ro Ps Vv Qm Jp Nb Vm lB oL tX jK copyV iQ xK V7 V8 Hn lG Nc Sp V2 oA rY yU Ao Cl yO Vx tE sC kJ hT setLoop cT
namespace Go.Proofs.YtajjljbmfdboaaaGreatDoor
open Go Go.Ab Go.Hm Go.At Go.Mc
section
def tH (m:Mon) (done:List Int) (k:Nat):Option Value:=if(k:Int)∈done then gB m.runs k else none
theorem ey {m:Mon}:tH m []=fun _=>none:=by funext k;unfold tH;simp
theorem kl {m:Mon} {done:List Int} {k:Nat} {r:Mc.jE} (a:m.runs k=some r):Jd (tH m done) k (some (.agg ⟨r.enc⟩))=tH m (done++[(k:Int)]):=by
 funext j;unfold Jd tH;by_cases e:j=k;subst e;simp[gB,a]
 .rw[aJ6 e];have:((j:Int)∈done++[(k:Int)])↔(j:Int)∈done:=by simp;omega
  simp only[this]
theorem iy {m:Mon} (a:∀g r,m.runs g=some r->g<16):tH m (m.running.map fun k:Nat=>(k:Int))=gB m.runs:=by
 funext k;unfold tH;split;rfl;rename_i d;cases hr:m.runs k with
 |none=>unfold gB;rw[hr];rfl
 |some r=>exact absurd (List.mem_map.2 ⟨k,qY.2 ⟨a k r hr,by rw[hr];rfl⟩,rfl⟩) d
set_option maxRecDepth 100000
variable {G:Bg} {h:AH} {L L' M:List HP} {Q:Value->AH->Prop} {C:bP} {m:Mon} {p:Nat}
abbrev aD4 (C:bP) (m:Mon) (p p2 a q t b:Nat) (e:Nat->Value) (d l:Nat) (done:List Int):HP:=
 sp [pH Pr 77 (pD 122) 39 e d l (.ready,none),sp [aG p2 0 [pt p 0 0],aG a 0 [pt q 0 0]],fV C p m,sp [aG q 0 [pt t 0 0,I C.aE,gH b],gW t m.dQ,iJ b (tH m done)]]
theorem La (hC:C.Ok) (R:iA C m) (u:Hs G h L) [mm:Has (fV C p) L m L'] (hk:∀q O,Hs G O (fV C q m::fV C p m::L')->Q (pt q 0 0) O):Cl Pr K 77 [pt p 0 0] h Q:=by
 have P:=R.len;have α:=hC.2.1;refine cW (dR (mm.of u) fun w h u=>?_);refine am w u rfl (dD (cG ?_));obtain⟨t0,E,u⟩:=kV (u.front (fV C p m));refine bW (aY u fun B h0 y=>am w y rfl (aB (aA (am p y rfl (X9 (es:=m.dQ) (by omega) y fun t h u=>?_)))));refine am w u rfl (aB (aA (am p u rfl (am w u rfl (aB (aA (am p u rfl (aCh (b:=E) (f:=gB m.runs) u fun _=>aGr (W0 (r:=B) (i:=14) (n:=19) (D:=[]) u rfl rfl fun b h u=>?_)))))))));refine aQ (c:=[pt t 0 0,I C.aE,gH b]) rfl (xD (r:=B) (i:=16) (n:=19) (D:=[14]) u rfl rfl fun q h u=>jM (r:=B) (i:=17) (n:=19) (D:=[16,14]) u rfl rfl fun z h u=>ax (b:=z) u fun h u=>?_);refine bT (am w y rfl bZ) (bT (aB bZ) (bT (aA bZ) (bT (am p y rfl gF) (bT (am w y rfl bZ) (bT (aB bZ) (bT (aA bZ) (bT (am p y rfl (by simp[nG,gH])) ?_)))))));have u:=dU (u.cZ (aG p 0 [pt t0 0 0,I C.aE,gH E]) (gW t0 m.dQ) (iJ E (gB m.runs)));refine am w u rfl (Du (C:=C) (m:=m) u fun W U V h u=>oF u fun d h u=>?_);intro e he;refine sV u fun l h u=>Ah rfl ?_;rw[<-ey (m:=m)] at u;have u:Hs G h (H.Ni 3 W U V (m.running.map fun k:Nat=>(k:Int))::aD4 C m p w z q t b e d l []::mk d ()::L'):=by
  have u:=(u.cZ (aG q 0 [pt t 0 0,I C.aE,gH b]) (gW t m.dQ) (iJ b (tH m []))).V5;have u:=(u.cI (aG w 0 [pt p 0 0]) (aG z 0 [pt q 0 0])).Hu;have u:=(u.kG (pH Pr 77 (pD 122) 39 e d l (.ready,none)) (sp [aG w 0 [pt p 0 0],aG z 0 [pt q 0 0]]) (fV C p m) (sp [aG q 0 [pt t 0 0,I C.aE,gH b],gW t m.dQ,iJ b (tH m [])])).M8;exact u.to
 refine(H.Fy (e:=3) (p:=W) (a:=U) (c:=V) (xs:=m.running.map fun k:Nat=>(k:Int)) (by have:=List.length_filter_le (fun g=>(m.runs g).isSome) (List.range 16);simp[Mon.running] at this ⊢;omega)).fold
  (X:=fun done=>aD4 C m p w z q t b e d l done) (Z:=fun _ _=>B6 False) u ?_ ?_ ?_
 .intro done x h M S u;have u:=u.zc;obtain⟨k,A,rfl⟩:∃k∈m.running,(k:Int)=x:=by
   obtain⟨ys,N⟩:=S;have:x∈m.running.map fun k:Nat=>(k:Int):=by rw[<-N];simp
   obtain⟨k,Y,h2⟩:=List.mem_map.1 this;exact⟨k,Y,h2⟩
  obtain⟨r,T⟩:=Option.isSome_iff_exists.1 (qY.1 A).2;have J:m.run (k:Int)=some r:=by unfold Mon.run;rw[aac];exact T
  have u:=(u.front (sp [aG w 0 [pt p 0 0],aG z 0 [pt q 0 0]])).G5;have u:=(u.front (sp [aG q 0 [pt t 0 0,I C.aE,gH b],gW t m.dQ,iJ b (tH m done)])).D2;refine rW (Aa u) he (lT u fun h u=>aY u fun B h u=>?_);obtain⟨t2,F,u⟩:=kV (u.front (fV C p m));refine am z u rfl (aB (aA (am q u rfl (am w u rfl (aB (aA (am p u rfl (Ox (b:=F) (m:=m) u ?_))))))));rw[J];refine Ra (b:=b) (f:=tH m done) u (qY.1 A).1 fun h u=>mD u fun h u=> .inl ⟨rfl,?_⟩;rw[show(some r).getD B7=r from rfl,kl T] at u;have u:=dU (u.cZ (aG p 0 [pt t2 0 0,I C.aE,gH F]) (gW t2 m.dQ) (iJ F (gB m.runs)));have u:=(u.cZ (aG q 0 [pt t 0 0,I C.aE,gH b]) (gW t m.dQ) (iJ b (tH m (done++[(k:Int)])))).V5;have u:=(u.cI (aG w 0 [pt p 0 0]) (aG z 0 [pt q 0 0])).Hu;have u:=(u.kG (pH Pr 77 (pD 122) 39 e d l (.ready,none)) (sp [aG w 0 [pt p 0 0],aG z 0 [pt q 0 0]]) (fV C p m) (sp [aG q 0 [pt t 0 0,I C.aE,gH b],gW t m.dQ,iJ b (tH m (done++[(k:Int)]))])).M8;exact u.to
 intro v h u;have u:=(u.front (aD4 C m p w z q t b e d l (m.running.map fun k:Nat=>(k:Int)))).zc;have u:=(u.front (sp [aG w 0 [pt p 0 0],aG z 0 [pt q 0 0]])).G5;have u:=(u.front (sp [aG q 0 [pt t 0 0,I C.aE,gH b],gW t m.dQ,iJ b (tH m (m.running.map fun k:Nat=>(k:Int)))])).D2;rw[iy (R.aGp hC)] at u;have u:=dU (u.cZ (aG q 0 [pt t 0 0,I C.aE,gH b]) (gW t m.dQ) (iJ b (gB m.runs)));exact tR u fun h u=>tA (am z u rfl (oT u fun h u=>mB (hk _ _ u.to)))
 .intro done x v h S u;obtain⟨hd,_⟩:=(u.front (B6 False)).xw;exact hd.elim
end
end Go.Proofs.YtajjljbmfdboaaaGreatDoor
end
namespace Go.Proofs.YtajjljbmfdboaaaGreatDoor
open Go Go.Ab Go.Hm Go.At Go.Mc
section
theorem vj {t:TypeId} {v:Value} {k:Value->Prop} (a:k (.bool false)):bG (Qm true .eql (.iface t v) .nilIface) k:=⟨_,rfl,a⟩
set_option maxRecDepth 100000
attribute [local irreducible] bG Br pK sD tZ Cq mN wW lR Rs gX mT rA rG pJ kU zA vE V9 V4 Ro Ps Vv Qm Jp Nb Vm lB oL tX jK copyV iQ xK V7 V8 Hn lG Nc Sp V2 oA rY yU Ao Cl yO Vx tE sC kJ hT setLoop cT
variable {G:Bg} {h:AH} {L L' M:List HP} {Q:Value->AH->Prop} {C:bP} {m:Mon} {p:Nat}
theorem Rm {ov:Value} {os:List Int} {k:Value->Prop} (d:A.F1 G ov os) (a:k (I os.length)):bG (kU ov) k:=A.qN d (by rw[A.oK];exact a)
theorem nL {α:Type} {l:List α} {i:Nat} (h:i<l.length):∃x,l[i]?=some x/\l.drop i=x::l.drop (i+1):=⟨l[i],by simp,List.drop_eq_getElem_cons h⟩
def tQ (os:List Int):List hZ:=os.map fun o=>⟨o,false⟩
theorem Qj {ov:Value} {os:List Int} (q:A.F1 G ov os) (y:os.length<=16) (t:∀o∈os,0<=o/\o<=4) {t0:Value} (k:∀d,Hs G d L->Dd 87 4 [] Q [t0,ov] d):
  ∀(f i:Nat) (h:AH),i+f=os.length->Hs G h L->Dd 87 2 [] Q [t0,ov,ov,(I os.length),(I i)] h:=by
 intro f
 induction f with
 |zero=>intro i h g a;exact bW (bA (aab (k _ a)))
 |succ f v=>
  intro i h g a
  obtain⟨x,e,w⟩:=nL (l:=os) (i:=i) (by omega)
  have u:=t x (List.mem_of_getElem? e)
  have a:=A.sH q a
  exact bW (bA (aae (bW (zR a (x:=[I x]) (by simp[A.Ea,e]) rfl (bA (aab (mC (aab (bW (aad (v (i+1) h (by omega) a.tail)))))))))))
theorem jg {os:List Int} {i:Nat} {x:Int} (a:os[i]?=some x):(tQ (os.take i)++List.replicate (os.length - i) iI).set i ⟨x,false⟩=tQ (os.take (i+1))++List.replicate (os.length - (i+1)) iI:=by
 obtain⟨f,e⟩:=List.getElem?_eq_some_iff.1 a;have d:(tQ (os.take i)).length=i:=by simp[tQ];omega
 rw[List.set_append_right _ _ (by omega),d,Nat.sub_self,show os.length - i=(os.length - (i+1))+1 by omega,List.replicate_succ,List.set_cons_zero,List.take_add_one,a];simp[tQ]
theorem jw {ov:Value} {os:List Int} (hC:C.Ok) (g:A.F1 G ov os) (P:os.length=C.aN.toNat) (z:∀o∈os,0<=o/\o<=4) (a:Hs G h L) (F:∀q w,Hs G w (fV C q ⟨tQ os,fun _=>none⟩::L)->Q (.tuple ⟨[pt q 0 0,I 0]⟩) w):Cl Pr K 87 [I C.aE,ov] h Q:=by
 have N:=hC.1;have D:=hC.2.1;refine cW (bA (aab (mC (aab (Rm g (bA (aab (Rm g (mC (aab (bW (Rm g ?_))))))))))));refine Qj g (by omega) z ?_ os.length 0 h (by omega) a;intro h a;refine bW (Rm g (dj (by omega) a fun t h a=>aH rfl (aH rfl (bC (aab (bW (ny a fun b h a=>?_)))))));refine aQ (c:=[pt t 0 0,I C.aE,gH b]) rfl (dR a fun q h a=>Rm g ?_);have loop:∀(f i:Nat) (h:AH),i+f=os.length->Hs G h (gW t (tQ (os.take i)++List.replicate (os.length - i) iI)::aG q 0 [pt t 0 0,I C.aE,gH b]::iJ b (fun _=>none)::L)->Dd 87 7 [] Q [(pt q 0 0),ov,(I os.length),(I i)] h:=by
  intro f;induction f with
  |zero=>
   intro i h E a;refine bW (bA (aab (F _ _ ?_)));have k:i=os.length:=by omega
   subst k;rw[List.take_length,Nat.sub_self,List.replicate_zero,List.append_nil] at a;have a:Hs G h (aG q 0 [pt t 0 0,I C.aE,gH b]::gW t (tQ os)::iJ b (fun _=>none)::L):=a.to;exact dU (m:=⟨tQ os,fun _=>none⟩) a
  |succ f J=>
   intro i h E a;obtain⟨x,u,O⟩:=nL (l:=os) (i:=i) (by omega);have v:=z x (List.mem_of_getElem? u);have a:=A.sH g a;refine bW (bA (aae (bW (zR a (x:=[I x]) (by simp[A.Ea,u]) rfl (aB (aA (am q a rfl (aQ (c:=(⟨x,false⟩:hZ).enc) rfl (F6 (x:=⟨x,false⟩) a.tail fun h a=>?_)))))))));have y:(tQ (os.take i)++List.replicate (os.length - i) iI).length=os.length:=by simp[tQ];omega
   have d:(0<=(i:Int)/\(i:Int)<(tQ (os.take i)++List.replicate (os.length - i) iI).length)/\(0<=(⟨x,false⟩:hZ).owner/\(⟨x,false⟩:hZ).owner<=4):=⟨by omega,v⟩;rw[aJ7 d] at a;rw[aJ7 d];rw[Int.toNat_natCast,jg u] at a;exact bC (aab (bW (aad (J (i+1) h (by omega) a))))
 have e:(os.length:Int).toNat=os.length:=Int.toNat_natCast _;refine loop os.length 0 h (by omega) ?_;rw[e] at a;have B:List.replicate os.length iI=tQ (os.take 0)++List.replicate (os.length - 0) iI:=rfl;rw[B] at a;exact a.to
theorem Hl (hC:C.Ok) {x:Int} (k:Ob G 0 eT) (a:Hs G h L)
  (e:∀f,Hs G f L->Q (if C.has x then .tuple ⟨[I (x/2),I 0]⟩ else .tuple ⟨[I 0,I 10]⟩) f):Cl Pr K 191 [.agg ⟨C.enc⟩,I x] h Q:=by
 have hb:=(bP.fN hC).2.2
 have d:C.has x↔0<=x/\x<C.lines:=Iff.rfl
 refine cW (dR a fun p h a=>bA (aX (fun g=>?_) (fun g=>?_)))
 .rw[aJ6 (by rw[d];omega)] at e;exact e _ a.tail
 refine aR a (by decide) (l:=C.enc) rfl rfl (rB hC k a fun h a=>dW (aX (fun i=>?_) (fun i=>?_)))
 .rw[aJ6 (by rw[d];omega)] at e;exact e _ a.tail
 .rw[aJ7 (by rw[d];omega)] at e;obtain⟨n,rfl⟩:=Int.eq_ofNat_of_zero_le (show 0<=x by omega);exact E3 (by omega) (by omega) (by omega) (e _ a.tail)
def J1 (C:bP) (m:Mon) (world line:Int):Int×Bool:=if C.has line then((m.kT (line/2)).owner,!(m.kT (line/2)).locked&&yV world (m.kT (line/2)).owner) else(0,false)
theorem Uh {w x:Int} (hC:C.Ok) (A:iA C m) (z:Ob G 0 eT) (a:Hs G h L) [B:Has (fV C p) L m L'] (d:∀i,Hs G i (fV C p m::L')->Q (.tuple ⟨[I (J1 C m w x).1,.bool (J1 C m w x).2]⟩) i):Cl Pr K 334 [.agg ⟨C.enc++[pt p 0 0]⟩,I w,I x] h Q:=by
 have k:=A.len;have v:=hC.2.1;have hb:=bP.fN hC;unfold J1 at d;refine cW (dR (cs:=C.enc++[pt p 0 0]) (B.of a) fun q h a=>aA (kB (b:=q) (o:=0) a (by decide) (l:=C.enc) rfl rfl (Hl hC z a fun h a=>?_)));by_cases f:C.has x;rotate_left;rw[aJ6 f];rw[aJ6 f] at d;exact aH rfl (aH rfl (bC (aae (d _ a.to))));rw[aJ7 f];rw[aJ7 f] at d;have g:=f;unfold bP.has at g;have y:m.has (x/2):=by unfold Mon.has;omega
 obtain⟨t,b,a⟩:=kV (a.front (fV C p m));refine aH rfl (aH rfl (bC (aab (bW (aA (am q a rfl (aB (aA (am p a rfl (Bw (m:=m) a fun h a=>?_))))))))));rw[aJ7 y];refine aH rfl (aH rfl (bQ a fun u h a=>ax (b:=u) a fun h a=>bC (aab (aY a fun D h a=>aA (am u a rfl (aA (am u a rfl (cH (eB ?_)))))))));have e:=dU (a.cZ (aG p 0 [pt t 0 0,I C.aE,gH b]) (gW t m.dQ) (iJ b (gB m.runs)));cases hk2:(m.kT (x/2)).locked with
 |true=>
  rw[hk2] at d;exact eU (bT (aA bZ) (bT (am u a rfl gF) (d _ e.to)))
 |false=>
  rw[hk2] at d;exact cG (aA (am u a rfl (Qg (bT (aA bZ) (bT (am u a rfl gF) (d _ e.to))))))
theorem P1 (hC:C.Ok) (i:iA C m) (f:Ob G 0 eT):H.X1 G (fV C p m) (.iface 311 (.agg ⟨C.enc++[pt p 0 0]⟩)) (J1 C m) where
 ne:=fun k a=>vj a
 may:=by
  intro h L M w l Q e d a;refine aEd (g:=334) rfl (Uh (L':=M) (m:=m) hC i f (d.perm e) fun h d=>⟨rfl,a _ (d.perm e.symm)⟩)
end
end Go.Proofs.YtajjljbmfdboaaaGreatDoor
namespace Go.Proofs.YtajjljbmfdboaaaGreatDoor.C
open Go Go.Ab Go.Hm Go.Ct
section
theorem oU {g n a:Nat} {i:Int} {k:Value->Prop} (d:0<=i) (e:i<n) (f:k (pt g (i.toNat*a) 0)):bG (oL n a (.pointer (some ⟨g,0,none⟩)) (I i)) k:=
 dX (b:=g) (o:=0) (j:=0) d e (by simpa [pt] using f)
theorem pR {s:Int} (h:0<=s/\s<5):jD[s.toNat*8+1]?=some (.bool (Ny s))/\jD[s.toNat*8+2]?=some (.bool (tP s))/\jD[s.toNat*8+3]?=some (.bool (jF s))/\jD[s.toNat*8+4]?=some (.bool (C7 s))
  /\jD[s.toNat*8+5]?=some (I (if tP s then 4 else 0))/\jD[s.toNat*8+6]?=some (I (Ig s))/\jD[s.toNat*8+7]?=some (I 0):=by
 have:s=0\/s=1\/s=2\/s=3\/s=4:=by omega
 rcases this with rfl|rfl|rfl|rfl|rfl<;>exact⟨rfl,rfl,rfl,rfl,rfl,rfl,rfl⟩
set_option maxRecDepth 100000
attribute [local irreducible] bG Br pK sD tZ Cq mN wW lR Rs gX mT rA rG pJ kU zA vE V9 V4 Ro Ps Vv Qm Jp Nb Vm lB oL tX jK copyV iQ xK V7 V8 Hn lG Nc Sp V2 oA rY yU Ao Cl yO Vx tE sC kJ hT setLoop cT
variable {G:Bg} {h:AH} {L L':List HP}
theorem zF {x:Int} {Q:Value->AH->Prop} (a:Q (.bool (ym x)) h):Cl Pr K 295 [I x] h Q:=by
 refine cW ?_;refine dW (aX (fun d=>bA ?_) (fun d=>?_));show Q _ _;rw[show decide (x<5)=ym x from decide_eq_decide.2 (by omega)];exact a;show Q _ _;rw[show false=ym x from(decide_eq_false (by omega)).symm];exact a
theorem P5 {x:Int} (h:ym x=true):0<=x/\x<5:=of_decide_eq_true h
theorem P3 {x:Int} (h:ym x=false):Ny x=false/\tP x=false/\jF x=false/\C7 x=false:=by
 have:=of_decide_eq_false h;refine⟨decide_eq_false ?_,decide_eq_false ?_,decide_eq_false ?_,decide_eq_false ?_⟩<;>omega
theorem y7 {x:Int} {Q:Value->AH->Prop} (f:Ob G 3 jD) (g:Hs G h L) (e:Q (.bool (Ny x)) h):Cl Pr K 291 [I x] h Q:=by
 refine cW (zF (dI (fun a=>?_) (fun a=>?_)));have d:=P5 a;exact oU d.1 d.2 (aA (zQ g f (o:=x.toNat*8) (j:=1) (pR d).1 e));rw[(P3 a).1] at e;exact e
theorem Vy {x:Int} {Q:Value->AH->Prop} (f:Ob G 3 jD) (g:Hs G h L) (e:Q (.bool (tP x)) h):Cl Pr K 290 [I x] h Q:=by
 refine cW (zF (dI (fun a=>?_) (fun a=>?_)));have d:=P5 a;exact oU d.1 d.2 (aA (zQ g f (o:=x.toNat*8) (j:=2) (pR d).2.1 e));rw[(P3 a).2.1] at e;exact e
theorem Mj {x:Int} {Q:Value->AH->Prop} (f:Ob G 3 jD) (g:Hs G h L) (e:Q (.bool (jF x)) h):Cl Pr K 294 [I x] h Q:=by
 refine cW (zF (dI (fun a=>?_) (fun a=>?_)));have d:=P5 a;exact oU d.1 d.2 (aA (zQ g f (o:=x.toNat*8) (j:=3) (pR d).2.2.1 e));rw[(P3 a).2.2.1] at e;exact e
theorem Fa {x:Int} {Q:Value->AH->Prop} (f:Ob G 3 jD) (g:Hs G h L) (e:Q (.bool (C7 x)) h):Cl Pr K 314 [I x] h Q:=by
 refine cW (zF (dI (fun a=>?_) (fun a=>?_)));have d:=P5 a;exact oU d.1 d.2 (aA (zQ g f (o:=x.toNat*8) (j:=4) (pR d).2.2.2.1 e));rw[(P3 a).2.2.2] at e;exact e
theorem Vn {x:Int} {Q:Value->AH->Prop} (e:Ob G 3 jD) (f:Hs G h L) (d:tP x=true) (g:Q (.tuple ⟨[I 4,I 0]⟩) h):Cl Pr K 250 [I x] h Q:=by
 have a:0<=x/\x<5:=by have:=of_decide_eq_true d;omega
 refine cW (zF ?_);rw[show ym x=true from decide_eq_true a];refine cH (cG (bW (Vy e f ?_)));rw[d];have:=(pR a).2.2.2.2.1;rw[aJ7 d] at this;exact cH (cG (oU a.1 a.2 (aA (zQ f e (o:=x.toNat*8) (j:=5) this g))))
theorem Oj {x to:Int} {Q:Value->AH->Prop} (d:Ob G 3 jD) (e:Hs G h L) (a:0<=x/\x<5) (k:to=0\/to=1) (g:Q (.tuple ⟨[I (gG x to),.bool (C7 x),.bool (jF x),I 0]⟩) h):Cl Pr K 312 [I x,I to] h Q:=by
 refine cW (zF ?_);rw[show ym x=true from decide_eq_true a];refine cH (cG ?_);have i:=(pR a).2.2.2.2.2.1;have f:=(pR a).2.2.2.2.2.2;rcases k with rfl|rfl;exact bC (aae (bC (aab (bW (oU a.1 a.2 (aA (zQ e d (o:=x.toNat*8) (j:=7) f (bH (aab (Fa d e (Mj d e g)))))))))));exact bC (aab (oU a.1 a.2 (aA (zQ e d (o:=x.toNat*8) (j:=7) f (bH (bS rfl (bW (oU a.1 a.2 (aA (zQ e d (o:=x.toNat*8) (j:=6) i (Fa d e (Mj d e g))))))))))))
theorem Oc {x:pI} {w:Bool} {Q:Value->AH->Prop} (f:Ob G 3 jD) (a:Hs G h L) (e:∀d,Hs G d L->Q (.bool (lH x.st w)) d):Cl Pr K 246 [.agg ⟨x.enc⟩,.bool w] h Q:=by
 refine cW (dR a ?_);intro p h a;cases w;exact cG (aA (aD a rfl (y7 f a (e _ a.tail))));exact eU (aA (aD a rfl (Vy f a (e _ a.tail))))
end
end Go.Proofs.YtajjljbmfdboaaaGreatDoor.C
section
open Go Go.Ab
attribute [local irreducible] bG Br pK sD tZ Cq mN wW lR Rs gX mT rA rG pJ kU zA vE V9 V4 Ro Ps Vv Qm Jp Nb Vm lB oL tX jK copyV iQ xK V7 V8 Hn lG Nc Sp V2 oA rY yU Ao Cl yO Vx tE sC kJ hT setLoop cT
namespace Go.Proofs.YtajjljbmfdboaaaGreatDoor.C
open Go Go.Ab Go.Hm Go.Ct
section
set_option maxRecDepth 100000
variable {G:Bg} {h:AH} {L L' M:List HP}
def cR (b o:Nat) (l:List Th):HP:=vD fun x:Option Addr×Nat=>sp [aG b o [.slice x.1 l.length x.2],cN 5 251 x.1 x.2 (l.length,eW l)]
theorem sZ {b o:Nat} {l:List Th} (d:Hs G h (cR b o l::L)):∃a c,Hs G h (aG b o [.slice a l.length c]::cN 5 251 a c (l.length,eW l)::L):=by
 obtain⟨⟨a,c⟩,d⟩:=d.B4;exact⟨a,c,d.unpack⟩
theorem jR (b o:Nat) (l:List Th) {a:Option Addr} {c n:Nat} {cs:List Value} {e L2:List HP} (g:Hs G h L) [m:Has (aG b o) L [.slice a n c] e] [i:Has (cN 5 251 a c) e (n,cs) L2] (f:n=l.length) (d:cs=eW l):Hs G h (cR b o l::L2):=by
 subst f;subst d;exact Hs.zX (A:=fun x:Option Addr×Nat=>sp [aG b o [.slice x.1 l.length x.2],cN 5 251 x.1 x.2 (l.length,eW l)]) (a,c) (Hs.pack (A:=[_,_]) (g.perm (m.perm.trans (i.perm.cons _))))
structure TgA where
 b:Nat
 o:Nat
 cap:Nat
def rK (ways n b o cap:Nat):List Value:=[I ways,.slice (some ⟨b,o,none⟩) n cap]
def hM (G:Bg) (t ways n:Nat) (S:Nat->List Th):HP:=vD fun x:TgA=>
 sp [aG t 0 (rK ways n x.b x.o x.cap),hole G 1 248 (some ⟨x.b,x.o,none⟩) x.cap n x.b x.o,dF n fun i=>cR x.b (x.o+i*1) (S i)]
theorem Vo {t ways n:Nat} {S:Nat->List Th} (a:Hs G h (hM G t ways n S::L)):∃b o cap,Hs G h (aG t 0 (rK ways n b o cap)::hole G 1 248 (some ⟨b,o,none⟩) cap n b o::dF n (fun i=>cR b (o+i*1) (S i))::L):=by
 obtain⟨⟨b,o,cap⟩,a⟩:=a.B4;exact⟨b,o,cap,a.unpack⟩
theorem Be {t ways n:Nat} {S:Nat->List Th} {b o cap:Nat} (a:Hs G h (aG t 0 (rK ways n b o cap)::hole G 1 248 (some ⟨b,o,none⟩) cap n b o::dF n (fun i=>cR b (o+i*1) (S i))::L)):Hs G h (hM G t ways n S::L):=
 Hs.zX (A:=fun x:TgA=>sp [aG t 0 (rK ways n x.b x.o x.cap),hole G 1 248 (some ⟨x.b,x.o,none⟩) x.cap n x.b x.o,dF n fun i=>cR x.b (x.o+i*1) (S i)]) ⟨b,o,cap⟩ (Hs.pack (A:=[_,_,_]) a)
def Sr (b o n:Nat) (S:Nat->List Th) (l:Nat):HP:=sp (((List.range n).erase l).map fun i=>cR b (o+i*1) (S i))
theorem I4 {t ways n l:Nat} {S:Nat->List Th} (d:l<n) (a:Hs G h (hM G t ways n S::L)):∃b o cap,Hs G h (cR b (o+l*1) (S l)::aG t 0 (rK ways n b o cap)::hole G 1 248 (some ⟨b,o,none⟩) cap n b o::Sr b o n S l::L):=by
 obtain⟨b,o,cap,a⟩:=Vo a;have a:=(a.front (dF n fun i=>cR b (o+i*1) (S i))).jX l d;exact⟨b,o,cap,(show Hs G h (cR b (o+l*1) (S l)::Sr b o n S l::_) from a).to⟩
theorem tB {f L2 g d:List HP} (t ways n:Nat) (S:Nat->List Th) (l:Nat) (x:List Th) (b o cap:Nat) (q:l<n) (a:Hs G h L) [u:dY (cR b (o+l*1) x) L f] [v:dY (aG t 0 (rK ways n b o cap)) f L2]
  [w:dY (hole G 1 248 (some ⟨b,o,none⟩) cap n b o) L2 g] [y:dY (Sr b o n S l) g d]:Hs G h (hM G t ways n (aS S l x)::d):=by
 have a:Hs G h (cR b (o+l*1) x::Sr b o n S l::aG t 0 (rK ways n b o cap)::hole G 1 248 (some ⟨b,o,none⟩) cap n b o::d):=
  (a.perm (u.perm.trans ((v.perm.trans ((w.perm.trans (y.perm.cons _)).cons _)).cons _))).to
 have k:(fun i=>cR b (o+i*1) (aS S l x i)) l=cR b (o+l*1) x:=by simp only[cJ]
 rw[<-k] at a
 unfold Sr at a
 have a:=a.lA (n:=n) (i:=l) (fun i=>cR b (o+i*1) (S i)) (fun i=>cR b (o+i*1) (aS S l x i)) q (fun j _ e=>by simp only[cF e])
 exact Be (b:=b) (o:=o) (cap:=cap) a.to
theorem zk {α:Type} {f:Nat->α} {i:Nat}:aS f i (f i)=f:=by
 funext j;unfold aS;split;rename_i e;rw[e];rfl
theorem dq {no:Int} {b o a2 o2 cp p:Nat} {l:List Th} {Q:Value->AH->Prop} (hb:l.length<=4):∀(r i:Nat) (h:AH) (L:List HP),i+r=l.length->ix no (l.take i)=none->Hs G h (aG p 0 [I no]::cN 5 251 (some ⟨a2,o2,none⟩) cp (l.length,eW l)::L)->
  (∀D,Hs G D (aG p 0 [I no]::cN 5 251 (some ⟨a2,o2,none⟩) cp (l.length,eW l)::L)->Q (.tuple ⟨[pt b o 0,I (mu no l),I 0]⟩) D)->
  Dd 289 3 [] Q [(pt b o 0),(I (-1)),(.func (.func 311) #[] #[pt p 0 0]),(.slice (some ⟨a2,o2,none⟩) l.length cp),(I l.length),(I i)] h:=by
 have B:∀(i:Nat) (l:List Th) (t:Th),ix no (l.take i)=none->l[i]?=some t->ix no (l.take (i+1))=if t.1=no then some i else none:=by
  intro i;induction i with
  |zero=>
   intro l t _ u;cases l with
   |nil=>cases u
   |cons a l=>cases u;simp[ix]
  |succ i y=>
   intro l t w u;cases l with
   |nil=>cases u
   |cons a l=>
    simp only[List.take_succ_cons,ix] at w ⊢;by_cases e:a.1=no;rw[aJ7 e] at w;cases w;rw[aJ6 e] at w ⊢;rw[y l t (by simpa using w) (by simpa using u)];split<;>rfl
 have z:∀(l:List Th) (i j:Nat),ix no (l.take i)=some j->ix no l=some j:=by
  intro l;induction l with
  |nil=>intro i j h;simp[ix] at h
  |cons a l y=>
   intro i j h;cases i with
   |zero=>simp[ix] at h
   |succ i=>
    simp only[List.take_succ_cons,ix] at h ⊢;by_cases e:a.1=no;rw[aJ7 e] at h ⊢;exact h;rw[aJ6 e] at h ⊢;cases hx:ix no (l.take i) with
    |none=>rw[hx] at h;cases h
    |some k=>rw[hx] at h;rw[y i k hx];exact h
 intro r
 induction r with
 |zero=>
  intro i h L F A d v
  rw[List.take_of_length_le (by omega)] at A
  simp only[mu,A] at v
  exact bW (bA (aab (v _ d)))
 |succ r y=>
  intro i h L F A d v
  have x:i<l.length:=by omega
  obtain⟨t,u⟩:∃t,l[i]?=some t:=⟨_,List.getElem?_eq_getElem x⟩
  refine bW (bA (aae (bW (dM x ?_))))
  obtain⟨J,K,E,g⟩:=(d.front (cN 5 251 (some ⟨a2,o2,none⟩) cp (l.length,eW l))).gD (by omega)
  cases E
  refine Lq g (by decide) (l:=xt t) (by rw[Nat.add_zero];exact S4 u) rfl ?_
  have g:=g.kZ (Bc l) (xZ l)
  refine bQ g ?_
  intro q h d
  refine ax d ?_
  intro h d
  refine aR d (by decide) (l:=xt t) rfl rfl ?_
  refine mZ (by kernel_rfl) (cW ?_)
  refine dR d ?_
  intro N h d
  have f:=B i l t A u
  refine aA (aD d rfl (am p d rfl (bH (aX (fun e=>?_) (fun e=>?_)))))
  .rw[aJ7 e] at f;have:=z _ _ _ f;simp only[mu,this] at v;exact bW (v _ d.to)
  .rw[aJ6 e] at f;exact bW (aad (y (i+1) h L (by omega) f d.to v))
theorem Uf {t:Nat} {no:Int} {Q:Value->AH->Prop} (e:no<0) (a:Hs G h L) (f:∀d,Hs G d L->Q (.tuple ⟨[.pointer none,I 0,I 10]⟩) d):Cl Pr K 289 [pt t 0 0,I no] h Q:=by
 refine cW (dR a ?_);intro p h a;exact dD (cG (bW (aD a rfl (bA (bS e (f _ a.tail))))))
theorem kR {n:Nat} {no:Int} (a:0<n):setOf n no<n:=by
 unfold setOf;have:=Int.emod_lt_of_pos no (show(0:Int)<n by omega);have:=Int.emod_nonneg no (show(n:Int)≠0 by omega);omega
theorem uU {t ways n b o cap:Nat} {no:Int} {l:List Th} {Q:Value->AH->Prop} (A:0<n) (y:0<=no) (hb:l.length<=4) (e:Hs G h L) [m:Has (aG t 0) L (rK ways n b o cap) L'] [B:Has (cR b (o+setOf n no*1)) L' l M]
  (v:∀i,Hs G i (aG t 0 (rK ways n b o cap)::cR b (o+setOf n no*1) l::M)->Q (.tuple ⟨[pt b (o+setOf n no*1) 0,I (mu no l),I 0]⟩) i):Cl Pr K 289 [pt t 0 0,I no] h Q:=by
 have e:Hs G h (aG t 0 (rK ways n b o cap)::cR b (o+setOf n no*1) l::M):=e.perm (m.perm.trans (B.perm.cons _))
 obtain⟨a,c,e⟩:=sZ e.lK
 refine cW (dR e ?_)
 intro p h e
 refine dD (cG (bW (aD e rfl (bA (aab (bW ?_))))))
 refine aY e ?_
 intro r h e
 have g:Hs G h (aG t 0 (rK ways n b o cap)::_):=e.front (aG t 0 (rK ways n b o cap))
 have x:no % (n:Int)=((setOf n no:Nat):Int):=by
  unfold setOf;have:=Int.emod_nonneg no (show(n:Int)≠0 by omega);omega
 refine aB (aA (am t g rfl (am p g rfl (aB (aA (am t g rfl (bU (Me y (by omega) ?_))))))))
 rw[x]
 refine dM (kR A) (aB ?_)
 have d:Hs G h (aG b (o+setOf n no*1) [.slice a l.length c]::_):=g.front (aG b (o+setOf n no*1) [.slice a l.length c])
 refine aD d rfl (bU ?_)
 by_cases k:l.length=0
 .have q:l=[]:=List.eq_nil_of_length_eq_zero k;subst q;refine bW (bA (aU (by simp) (v _ ?_)));exact(jR b (o+setOf n no*1) [] (a:=a) (c:=c) d rfl rfl).to
 .have f:=d.front (cN 5 251 a c (l.length,eW l));obtain⟨u,w,z,_⟩:=f.oG (by omega);subst z;refine dq (no:=no) (p:=p) hb l.length 0 h (aG t 0 (rK ways n b o cap)::aG b (o+setOf n no*1) [.slice (some ⟨u,w,none⟩) l.length c]::M) (by omega) rfl d.to ?_;intro i e;refine v _ ?_;exact(jR b (o+setOf n no*1) l (a:=some ⟨u,w,none⟩) (c:=c) e rfl rfl).to
end
section
theorem zY {n:Nat} {S:Nat->List Th} {no:Int}:aS S (setOf n no) (S (setOf n no))=S:=zk
theorem aCr {l:List Th} (h:0<l.length):(eW l)[0*5+(0+0)]?=some (I (l[0]).1):=by
 cases l with
 |nil=>simp at h
 |cons y l=>rfl
theorem ch {no:Int} {l:List Th} {i:Nat} {x:pI} (h:l[i]?=some (no,x)):((eW l).drop (i*5+1)).take 4=x.enc:=by
 have:=S4 h;rw[<-List.drop_drop];have a:(((eW l).drop (i*5)).take 5).drop 1=x.enc:=by rw[this];rfl
 rw[List.drop_take] at a;exact a
set_option maxRecDepth 100000
variable {G:Bg} {h:AH} {L L' M:List HP}
theorem Bz {t ways n:Nat} {no:Int} {S:Nat->List Th} {Q:Value->AH->Prop} (g:0<n) (hb:∀i,(S i).length<=4) (d:Hs G h L) [m:Has (hM G t ways n) L S L']
  (f:∀u,Hs G u (hM G t ways n S::L')->Q (.tuple ⟨[.agg ⟨(bB n S no).1.enc⟩,I (bB n S no).2]⟩) u):Cl Pr K 245 [pt t 0 0,I no] h Q:=by
 have d:=m.of d
 refine cW (bQ d ?_)
 intro p h d
 unfold bB at f
 by_cases k:no<0
 .rw[aJ7 k] at f;refine Uf k d fun h d=>aH rfl (aH rfl (aH rfl (bC (aae (aR d (by decide) (l:=pI.zero.enc) rfl rfl ?_)))));refine ax d ?_;intro h d;exact aR d (by decide) (l:=pI.zero.enc) rfl rfl (f _ d.tail)
 .rw[aJ6 k] at f;obtain⟨b,o,cap,d⟩:=I4 (kR (no:=no) g) (d.front (hM G t ways n S));refine uU (t:=t) (ways:=ways) (n:=n) (b:=b) (o:=o) (cap:=cap) (l:=S (setOf n no)) g (by omega) (hb _) d fun h d=>aH rfl (aH rfl (aH rfl (bC (aab ?_))));refine bW ?_;cases hx:ix no (S (setOf n no)) with
  |none=>
   rw[(Bf hx).1] at f
   simp only[mu,hx]
   refine bA (aae (an p d (l:=pI.zero.enc) rfl rfl ?_))
   refine ax (b:=p) (o:=0) d ?_
   intro h d
   refine aR d (by decide) (l:=pI.zero.enc) rfl rfl (f _ ?_)
   have:=tB t ways n S (setOf n no) (S (setOf n no)) b o cap (kR g) d
   rw[zY] at this
   exact this.to
  |some i=>
   obtain⟨x,w,y,B,z⟩:=xG hx
   rw[y] at f
   simp only[mu,hx]
   obtain⟨a,c,d⟩:=sZ (d.front (cR b (o+setOf n no*1) (S (setOf n no))))
   obtain⟨q,v,A,e⟩:=(d.front (cN 5 251 a c ((S (setOf n no)).length,eW (S (setOf n no))))).gD (by omega)
   subst A
   refine bA (aab (aB (aD (b:=b) (o:=o+setOf n no*1) e rfl (dM z (aA (Lq (b:=q) (o:=v) e (by decide) (l:=x.enc) (by rw[Nat.zero_add];exact ch w) rfl ?_))))))
   have e:=e.kZ (Bc _) (xZ _)
   refine ax (b:=p) (o:=0) e ?_
   intro h d
   refine aR d (by decide) (l:=x.enc) rfl rfl (f _ ?_)
   have d:=jR b (o+setOf n no*1) (S (setOf n no)) (a:=some ⟨q,v,none⟩) (c:=c) d rfl rfl
   have:=tB t ways n S (setOf n no) (S (setOf n no)) b o cap (kR g) d
   rw[zY] at this
   exact this.to
theorem jo {t ways n:Nat} {no:Int} {S:Nat->List Th} {Q:Value->AH->Prop} (J:0<ways) (k:0<n) (B:0<=no) (hb:∀i,(S i).length<=4) (d:Hs G h L) [m:Has (hM G t ways n) L S L']
  (f:∀u,Hs G u (hM G t ways n S::L')->Q (match yB n ways S no with|some v=> .tuple ⟨[I v.1,.bool true,I 0]⟩|none=> .tuple ⟨[I 0,.bool false,I 0]⟩) u):Cl Pr K 292 [pt t 0 0,I no] h Q:=by
 have d:=m.of d
 unfold yB at f
 refine cW ?_
 obtain⟨b,o,cap,d⟩:=I4 (kR (no:=no) k) (d.front (hM G t ways n S))
 refine uU (t:=t) (ways:=ways) (n:=n) (b:=b) (o:=o) (cap:=cap) (l:=S (setOf n no)) k (by omega) (hb _) d fun h d=>aH rfl (aH rfl (aH rfl (bC (aab ?_))))
 refine bW (aY d ?_)
 intro r h d
 have back:∀{h:AH},Hs G h (af r (13,[])::aG t 0 (rK ways n b o cap)::cR b (o+setOf n no*1) (S (setOf n no))::hole G 1 248 (some ⟨b,o,none⟩) cap n b o::Sr b o n S (setOf n no)::L')->Hs G h (hM G t ways n S::L'):=fun d=>by
  have:=tB t ways n S (setOf n no) (S (setOf n no)) b o cap (kR k) d;rw[zY] at this;exact this.to
 cases hx:ix no (S (setOf n no)) with
 |some i=>
  obtain⟨x,D,y,E,F⟩:=xG hx
  rw[y] at f
  simp only[mu,hx]
  exact dW (aae (f _ (back d)))
 |none=>
  rw[(Bf hx).1] at f
  simp only[mu,hx]
  obtain⟨a,c,d⟩:=sZ (d.front (cR b (o+setOf n no*1) (S (setOf n no))))
  refine dW (aab (aB (aD (b:=b) (o:=o+setOf n no*1) d rfl (bU (aB (aA (am t d rfl (bA (aX (fun A=>?_) (fun A=>?_))))))))))
  .simp only[aJ7 (show(S (setOf n no)).length<ways by omega)] at f;refine f _ (back ?_);exact(jR b (o+setOf n no*1) (S (setOf n no)) (a:=a) (c:=c) d rfl rfl).to
  .have g:0<(S (setOf n no)).length:=by omega
   simp only[aJ6 (show ¬(S (setOf n no)).length<ways by omega),List.getElem?_eq_getElem g] at f
   obtain⟨q,w,z,e⟩:=(d.front (cN 5 251 a c ((S (setOf n no)).length,eW (S (setOf n no))))).gD g
   subst z
   refine aB (aD (b:=b) (o:=o+setOf n no*1) e rfl (dM (i:=0) g (aA (aB4 (b:=q) (o:=w) (i:=0*5) (j:=0+0) e (v:=I ((S (setOf n no))[0]).1) ?_ (f _ ?_)))))
   .exact aCr g
   .have e:=e.kZ (Bc _) (xZ _);refine back ?_;exact(jR b (o+setOf n no*1) (S (setOf n no)) (a:=some ⟨q,w,none⟩) (c:=c) e rfl rfl).to
theorem Oh {l:List Th} {i c:Nat} {a:Option Addr} {Q:Value->AH->Prop} (x:i<l.length) (hb:l.length<=4) (d:Hs G h L) [m:Has (cN 5 251 a c) L (l.length,eW l) L']
  (y:∀k,Hs G k (cN 5 251 a c (l.length - 1,eW (l.take i++l.drop (i+1)))::L')->Q (.slice a (l.length - 1) c) k):Cl Pr K 296 [.slice a l.length c,I i,I ((i:Int)+1)] h Q:=by
 have d:=m.of d
 have e:l.length<=c:=by
  obtain⟨r,A,⟨_,_,z⟩,_⟩:=d.fst;rcases z with⟨g,_⟩|⟨g,_⟩|⟨e,_⟩;simp only at g;omega;simp only at g;omega;exact e
 obtain⟨b,o,w,_⟩:=d.oG (by omega)
 refine cW (bU ?_)
 refine Xb (v:= .slice (some ⟨b,o+i*5,none⟩) (i+1 - i) (l.length - i)) ?_ ?_
 .subst w;have q:lI (some (I l.length)) c c=some l.length:=by simp only[lI];rw[aac];simp
  have t:lI (some (I ((i:Int)+1))) l.length l.length=some (i+1):=by simp only[lI];rw[aac];congr 1
  have u:lI (some (I i)) 0 (i+1)=some i:=by simp only[lI];rw[aac];simp
  have f:¬l.length=i:=by omega
  simp only[xK,q,t,u,Option.isNone_some,Bool.false_and,Option.isSome_none,Bool.false_eq_true,if_false,f,dE]
  rw[aac]
 refine bH (aab (bW (bU (aY d ?_))))
 intro r h d
 refine aB1 (i:=i) (by decide) rfl rfl x d ?_
 intro h d
 refine y _ ?_
 rw[j0,<-Xs,<-Kt]
 exact d.to
theorem Vl {no:Int} {l:List Th} {i:Nat} (h:ix no l=some i):rem no l=l.take i++l.drop (i+1):=by obtain⟨_,_,_,a,_⟩:=xG h;exact a
theorem S6 {no:Int} {l:List Th} {i:Nat} (h:ix no l=some i):l.length - 1=(rem no l).length:=by
 obtain⟨x,d,a,e,f⟩:=xG h;rw[I3,a];rfl
theorem Q2 {t ways n:Nat} {no:Int} {S:Nat->List Th} {Q:Value->AH->Prop} (k:0<n) (hb:∀i,(S i).length<=4) (d:Hs G h L) [m:Has (hM G t ways n) L S L']
  (f:∀u,Hs G u (hM G t ways n (gE n S no)::L')->Q (.tuple ⟨[.agg ⟨(bB n S no).1.enc⟩,I (bB n S no).2]⟩) u):Cl Pr K 293 [pt t 0 0,I no] h Q:=by
 have d:=m.of d
 refine cW (bQ d ?_)
 intro p h d
 unfold bB gE at f
 by_cases g:no<0
 .rw[aJ7 g,aJ7 g] at f;refine Uf g d fun h d=>aH rfl (aH rfl (aH rfl (bC (aae (aR d (by decide) (l:=pI.zero.enc) rfl rfl ?_)))));refine ax d ?_;intro h d;exact aR d (by decide) (l:=pI.zero.enc) rfl rfl (f _ d.tail)
 .rw[aJ6 g,aJ6 g] at f;obtain⟨b,o,cap,d⟩:=I4 (kR (no:=no) k) (d.front (hM G t ways n S));refine uU (t:=t) (ways:=ways) (n:=n) (b:=b) (o:=o) (cap:=cap) (l:=S (setOf n no)) k (by omega) (hb _) d fun h d=>aH rfl (aH rfl (aH rfl (bC (aab ?_))));refine bW ?_;cases hx:ix no (S (setOf n no)) with
  |none=>
   rw[(Bf hx).1,(Bf hx).2,zY] at f
   simp only[mu,hx]
   refine bA (aae (an p d (l:=pI.zero.enc) rfl rfl ?_))
   refine ax (b:=p) (o:=0) d ?_
   intro h d
   refine aR d (by decide) (l:=pI.zero.enc) rfl rfl (f _ ?_)
   have:=tB t ways n S (setOf n no) (S (setOf n no)) b o cap (kR k) d
   rw[zY] at this
   exact this.to
  |some i=>
   obtain⟨x,y,z,B,v⟩:=xG hx
   rw[z] at f
   simp only[mu,hx]
   obtain⟨a,c,d⟩:=sZ (d.front (cR b (o+setOf n no*1) (S (setOf n no))))
   obtain⟨q,w,A,e⟩:=(d.front (cN 5 251 a c ((S (setOf n no)).length,eW (S (setOf n no))))).gD (by omega)
   subst A
   refine bA (aab (bW (aB (aD (b:=b) (o:=o+setOf n no*1) e rfl (dM v (aA (Lq (b:=q) (o:=w) e (by decide) (l:=x.enc) (by rw[Nat.zero_add];exact ch y) rfl ?_)))))))
   have e:=e.kZ (Bc _) (xZ _)
   refine ax (b:=p) (o:=0) e ?_
   intro h d
   refine aB (aD (b:=b) (o:=o+setOf n no*1) d rfl (bN (by have:=hb (setOf n no);omega) (Oh v (hb _) d fun h d=>?_)))
   refine aB (ay (b:=b) (o:=o+setOf n no*1) d ?_)
   intro h d
   refine an p d (l:=x.enc) rfl rfl ?_
   refine ax (b:=p) (o:=0) d ?_
   intro h d
   refine aR d (by decide) (l:=x.enc) rfl rfl (f _ ?_)
   rw[S6 hx,<-Vl hx] at d
   have d:=jR b (o+setOf n no*1) (rem no (S (setOf n no))) (a:=some ⟨q,w,none⟩) (c:=c) d rfl rfl
   exact(tB t ways n S (setOf n no) (rem no (S (setOf n no))) b o cap (kR k) d).to
end
section
set_option maxRecDepth 100000
variable {G:Bg} {h:AH} {L L' M:List HP}
theorem aGi {_t _ways n b o _cap p c:Nat} {no:Int} {x:pI} {l:List Th} {a:Option Addr} {Q:Value->AH->Prop} (hb:l.length<=4)
  (d:Hs G h (aG p 0 x.enc::aG b (o+setOf n no*1) [.slice a l.length c]::cN 5 251 a c (l.length,eW l)::L))
  (u:∀f,Hs G f (cR b (o+setOf n no*1) (l++[(no,x)])::L)->Q (I 0) f):Dd 251 4 [] Q [(I no),(pt p 0 0),(pt b (o+setOf n no*1) 0)] h:=by
 refine bW (aY d ?_)
 intro r h d
 refine aB (aD (b:=b) (o:=o+setOf n no*1) d rfl (an p d (l:=x.enc) rfl rfl ?_))
 refine aQ (c:=I no::x.enc) rfl (aQ (c:=xt (no,x)) rfl ?_)
 refine jV (i:=7) (N:=11) (D:=[]) d rfl rfl rfl rfl rfl ?_
 intro e h d
 refine nY (a:=a) (c:=c) (n:=l.length) (cs:=eW l) (a2:=some e) (c2:=1) (m:=1) (ns:=xt (no,x)) d (by omega) ?_
 intro g k h d
 refine aB (ay (b:=b) (o:=o+setOf n no*1) d ?_)
 intro h d
 refine bT (show nG _ _=true by simp[nG,pt]) (u _ ?_)
 have q:eW l++xt (no,x)=eW (l++[(no,x)]):=by simp[eW]
 have d:=jR b (o+setOf n no*1) (l++[(no,x)]) (a:=g) (c:=k) (n:=l.length+1) d (by simp) q
 exact d.to
theorem Ac {t ways n:Nat} {no:Int} {x:pI} {S:Nat->List Th} {Q:Value->AH->Prop} (D:0<=no) (k:0<n) (hb:∀i,(S i).length<=4) (d:Hs G h L) [m:Has (hM G t ways n) L S L']
  (f:∀w,Hs G w (hM G t ways n (jY n ways S no x).1::L')->Q (I (jY n ways S no x).2) w):Cl Pr K 251 [pt t 0 0,I no,.agg ⟨x.enc⟩] h Q:=by
 have d:=m.of d
 refine cW (dR d ?_)
 intro p h d
 obtain⟨b,o,cap,d⟩:=I4 (kR (no:=no) k) (d.front (hM G t ways n S))
 refine uU (t:=t) (ways:=ways) (n:=n) (b:=b) (o:=o) (cap:=cap) (l:=S (setOf n no)) k (by omega) (hb _) d fun h d=>aH rfl (aH rfl (aH rfl (bC (aab ?_))))
 obtain⟨a,c,d⟩:=sZ (d.front (cR b (o+setOf n no*1) (S (setOf n no))))
 refine bW ?_
 have fin:∀{h:AH} {M:List HP},Hs G h (aG t 0 (rK ways n b o cap)::aG p 0 x.enc::aG b (o+setOf n no*1) [.slice a (rem no (S (setOf n no))).length c]::cN 5 251 a c ((rem no (S (setOf n no))).length,eW (rem no (S (setOf n no))))::
   hole G 1 248 (some ⟨b,o,none⟩) cap n b o::Sr b o n S (setOf n no)::L')->
   (bG (mT (pt b (o+setOf n no*1) 0)) fun B=>bG (pK h B) fun v9=>bG (kU v9) fun v10=>bG (mT (pt t 0 0)) fun v11=>bG (gX 0 v11) fun q=>bG (pK h q) fun u=>bG (vE .geq v10 u) fun v=>
    Br v (Q (I 11) h) (Dd 251 4 [] Q [(I no),(pt p 0 0),(pt b (o+setOf n no*1) 0)] h)):=by
  intro h M d
  have g:(rem no (S (setOf n no))).length<=4:=by rw[I3];have:=hb (setOf n no);split<;>omega
  unfold jY at f
  refine aB (aD (b:=b) (o:=o+setOf n no*1) d rfl (bU (aB (aA (am t d rfl (dW (aX (fun A=>?_) (fun A=>?_))))))))
  .rw[aac] at f;refine f _ ?_;have d:=jR b (o+setOf n no*1) (rem no (S (setOf n no))) (a:=a) (c:=c) d rfl rfl;exact(tB t ways n S (setOf n no) (rem no (S (setOf n no))) b o cap (kR k) d).to
  .rw[aaa] at f;refine aGi (_t:=t) (_ways:=ways) (_cap:=cap) (l:=rem no (S (setOf n no))) (a:=a) (c:=c) g (show Hs G h (aG p 0 x.enc::aG b (o+setOf n no*1) [.slice a (rem no (S (setOf n no))).length c]::cN 5 251 a c ((rem no (S (setOf n no))).length,eW (rem no (S (setOf n no))))::aG t 0 (rK ways n b o cap)::
    hole G 1 248 (some ⟨b,o,none⟩) cap n b o::Sr b o n S (setOf n no)::L') from d.to) ?_
   intro h d
   exact f _ (tB t ways n S (setOf n no) (rem no (S (setOf n no))++[(no,x)]) b o cap (kR k) d).to
 cases hx:ix no (S (setOf n no)) with
 |none=>
  have e:=(Bf hx).2
  simp only[mu,hx]
  refine dW (aab (bW (aY d ?_)))
  intro r h d
  refine fin (M:=[]) ?_
  rw[e]
  exact d.to
 |some i=>
  obtain⟨y,E,F,J,z⟩:=xG hx
  simp only[mu,hx]
  refine dW (aae (bW ?_))
  refine aB (aD (b:=b) (o:=o+setOf n no*1) d rfl (bN (by have:=hb (setOf n no);omega) (Oh z (hb _) d fun h d=>?_)))
  refine aB (ay (b:=b) (o:=o+setOf n no*1) d ?_)
  intro h d
  refine aY d ?_
  intro r h d
  refine fin (M:=[]) ?_
  rw[S6 hx,<-Vl hx] at d
  have d:=d.sg (b:=b) (o:=o+setOf n no*1) (c:=[.slice a (rem no (S (setOf n no))).length c]) rfl
  exact d.to
end
section
set_option maxRecDepth 100000
variable {G:Bg} {h:AH} {L L' M:List HP}
theorem zE {t ways n:Nat} {no:Int} {S:Nat->List Th} {Q:Value->AH->Prop} (q:0<=no) (k:0<n) (hb:∀i,(S i).length<=4) (a:Hs G h L) [m:Has (hM G t ways n) L S L']
  (d:∀g,Hs G g (hM G t ways n (vR n ways S no)::L')->Q (.tuple ⟨[.agg ⟨(bB n S no).1.enc⟩,I (oh n ways S no)]⟩) g):Cl Pr K 249 [pt t 0 0,I no] h Q:=by
 have a:=m.of a
 refine cW (bQ a ?_)
 intro p h a
 refine Q2 (t:=t) (ways:=ways) (n:=n) (S:=S) k hb a fun h a=>aH rfl (aH rfl ?_)
 refine ax (b:=p) (o:=0) a ?_
 intro h a
 unfold vR oh at d
 refine bC (aX (fun f=>?_) (fun f=>?_))
 .rw[aJ6 f,aJ6 f] at d;refine aR a (by decide) (l:=(bB n S no).1.enc) rfl rfl ?_;refine ax a ?_;intro h a;exact aR a (by decide) (l:=(bB n S no).1.enc) rfl rfl (d _ a.tail)
 .rw[aac,aac] at d;refine aY a ?_;intro r h a;refine an p a (l:=(bB n S no).1.enc) rfl rfl (an p a (l:=(bB n S no).1.enc) rfl rfl ?_);refine Ac (t:=t) (ways:=ways) (n:=n) (S:=gE n S no) q k (u0 hb) a fun h a=>?_;refine ax (b:=p) (o:=0) a ?_;intro u e;refine bT ?_ ?_
  .refine an p a (l:=(bB n S no).1.enc) rfl rfl ?_;exact oP (by simp[pI.enc,nG])
  .exact an p e (l:=(bB n S no).1.enc) rfl rfl (d _ e.to)
end
end Go.Proofs.YtajjljbmfdboaaaGreatDoor.C
end
namespace Go.Proofs.YtajjljbmfdboaaaGreatDoor.C
open Go Go.Ab Go.Hm Go.Ct
section
theorem aDi {a:Option Addr} {n c:Nat} {k:Value->Prop} (d:a=none->k (.bool true)) (e:a≠none->k (.bool false)):bG (Ps .eql (.slice a n c) (.slice none 0 0)) k:=by
 cases a with
 |none=>exact⟨_,rfl,d rfl⟩
 |some a=>exact⟨_,rfl,e (by simp)⟩
set_option maxRecDepth 100000
attribute [local irreducible] bG Br pK sD tZ Cq mN wW lR Rs gX mT rA rG pJ kU zA vE V9 V4 Ro Ps Vv Qm Jp Nb Vm lB oL tX jK copyV iQ xK V7 V8 Hn lG Nc Sp V2 oA rY yU Ao Cl yO Vx tE sC kJ hT setLoop cT
variable {G:Bg} {h:AH} {L L' M:List HP}
theorem Z4 {b o n:Nat} (d:Hs G h (dF n (fun i=>aG b (o+i*1) [.slice none 0 0])::L)):Hs G h (dF n (fun i=>cR b (o+i*1) [])::L):=
 Hs.Jb (g:=fun i=>cR b (o+i*1) []) n _ (fun i _ _ _ d=>(jR b (o+i*1) [] (a:=none) (c:=0) (n:=0) (cs:=[]) (gK (W:=5) (e:=251) d).lK rfl rfl)) d
theorem U9 {s w:Int} (q:1<=s/\s<=8) (t:1<=w/\w<=4) {Q:Value->AH->Prop} (d:Hs G h L) (k:∀p f,Hs G f (hM G p w.toNat s.toNat (fun _=>[])::L)->Q (.tuple ⟨[pt p 0 0,I 0]⟩) f):Cl Pr K 143 [I s,I w] h Q:=by
 refine cW (bA (aab (mC (aab (bA (aab (mC (aab (Qx (by omega) (by omega) (by omega) ?_)))))))));dsimp only;refine dL d ?_ rfl ?_ ?_;rw[gT,rE (W:=1) (fun _=>rfl)];rw[gT];exact pO (fun _=>rfl) _;intro a h d;obtain⟨b,o,g,d⟩:=Hs.Ke (W:=1) rfl (by omega) d;cases g;have e:w=(w.toNat:Int):=by omega
 refine aQ (c:=rK w.toNat s.toNat b o s.toNat) (by unfold rK;rw[<-e];rfl) (dR d ?_);intro p h d;refine k p h ?_;have d:=Z4 (d.front (dF s.toNat fun i=>aG b (o+i*1) [.slice none 0 0]));exact Be (b:=b) (o:=o) (cap:=s.toNat) d.to
theorem uk {l:List Th} {a:Option Addr} {c:Nat} {Q:Value->AH->Prop} (hb:l.length<=4) (d:Hs G h L) [m:Has (cN 5 251 a c) L (l.length,eW l) L']
  (q:∀e f k,Hs G k (cN 5 251 e f (l.length,eW l)::cN 5 251 a c (l.length,eW l)::L')->Q (.slice e l.length f) k):Cl Pr K 181 [.slice a l.length c] h Q:=by
 have d:=m.of d
 refine cW (aDi (fun g=>eU ?_) (fun _=>cG (aQ (c:=[]) rfl ?_)))
 .subst g;have t:l=[]:=by
   cases l with
   |nil=>rfl
   |cons y l=>obtain⟨b,o,g,_⟩:=d.oG (by simp);cases g
  subst t
  exact q none 0 h (gK d)
 .refine dL (W:=5) (n:=0) (c:=0) d rfl rfl rfl ?_;intro i h d;refine nY (a:=some i) (c:=0) (n:=0) (cs:=[]) (a2:=a) (c2:=c) (m:=l.length) (ns:=eW l) d (by omega) ?_;intro e f h d;have:=q e f h (by simpa using d);show Q _ _;simpa using this
theorem jx {_p q b o cap b2 o2 cap2 n ways:Nat} {S:Nat->List Th} {Q:Value->AH->Prop} (J:n<=8) (hb:∀i,(S i).length<=4)
  (D:∀v,Hs G v (dF n (fun i=>cR b (o+i*1) (S i))::dF n (fun i=>cR b2 (o2+i*1) (S i))::aG q 0 (rK ways n b2 o2 cap2)::L)->Q (pt q 0 0) v):∀(r i:Nat) (h:AH) (_M:List HP),i+r=n->
  Hs G h (dF n (fun i=>cR b (o+i*1) (S i))::dF n (fun j=>cR b2 (o2+j*1) (if j<i then S j else []))::aG q 0 (rK ways n b2 o2 cap2)::L)->
  Dd 142 2 [] Q [(pt q 0 0),(.slice (some ⟨b,o,none⟩) n cap),(I n),(I i)] h:=by
 intro r
 induction r with
 |zero=>
  intro i h M A u
  have:i=n:=by omega
  subst this
  refine bW (bA (aab (D _ ?_)))
  exact(qB (f:=fun j=>cR b2 (o2+j*1) (if j<i then S j else [])) (g:=fun j=>cR b2 (o2+j*1) (S j)) (fun j B=>by rw[aJ7 B]) u.lK).lK
 |succ r F=>
  intro i h M A u
  have e:i<n:=by omega
  refine bW (bA (aae (bW (dM e ?_))))
  have t:=u.jX i e
  obtain⟨a,c,t⟩:=sZ t
  refine aD (b:=b) (o:=o+i*1) t rfl (aY t ?_)
  intro K h u
  refine aB (aA (am q u rfl (uk (l:=S i) (a:=a) (c:=c) (hb i) u fun w x h u=>?_)))
  have k:=(u.front (dF n fun j=>cR b2 (o2+j*1) (if j<i then S j else []))).jX i e
  simp only[Nat.lt_irrefl,if_false] at k
  obtain⟨a3,c3,k⟩:=sZ k
  refine dM e (ay (b:=b2) (o:=o2+i*1) k ?_)
  intro z d
  refine bT bZ (bT (aB bZ) (bT (aA bZ) (bT (am q k rfl Hq) (bT gF (aad ?_)))))
  refine F (i+1) z [] (by omega) ?_
  have d:=jR b2 (o2+i*1) (S i) (a:=w) (c:=x) d rfl rfl
  have y:cR b2 (o2+i*1) (S i)=(fun j=>cR b2 (o2+j*1) (if j<i+1 then S j else [])) i:=by simp only[Nat.lt_succ_self,if_true]
  rw[y] at d
  have d:=d.lA (n:=n) (i:=i) (fun j=>cR b2 (o2+j*1) (if j<i then S j else [])) (fun j=>cR b2 (o2+j*1) (if j<i+1 then S j else [])) e (fun j _ E=>by
   have:(j<i+1)=(j<i):=propext ⟨fun h=>by omega,fun h=>by omega⟩;simp only[this])
  have d:=jR b (o+i*1) (S i) (a:=a) (c:=c) d rfl rfl
  have d:=d.lA (n:=n) (i:=i) (fun j=>cR b (o+j*1) (S j)) (fun j=>cR b (o+j*1) (S j)) e (fun _ _ _=>rfl)
  exact d.to
theorem yz {t ways n:Nat} {S:Nat->List Th} {Q:Value->AH->Prop} (g:0<n) (w:n<=8) (hb:∀i,(S i).length<=4) (d:Hs G h L) [m:Has (hM G t ways n) L S L']
  (v:∀q k,Hs G k (hM G q ways n S::hM G t ways n S::L')->Q (pt q 0 0) k):Cl Pr K 142 [pt t 0 0] h Q:=by
 obtain⟨b,o,cap,d⟩:=Vo (m.of d)
 refine cW (dD (cG (bW (aY d ?_))))
 intro x h d
 refine aB (aA (am t d rfl (aB (aA (am t d rfl (bU (aBp (by omega) (by omega) ?_)))))))
 dsimp only
 refine jV (i:=9) (N:=13) (D:=[]) d rfl rfl ?_ rfl ?_ ?_
 .rw[gT,rE (W:=1) (fun _=>rfl)]
 .rw[gT];exact pO (fun _=>rfl) _
 intro a h d
 obtain⟨e,f,u,d⟩:=Hs.Ke (W:=1) rfl g d
 cases u
 refine aQ (c:=rK ways n e f n) rfl ?_
 refine xD (i:=11) d rfl rfl ?_
 intro q h d
 refine aB (aA (am t d rfl (bU ?_)))
 have d:=Z4 (d.front (dF n fun i=>aG e (f+i*1) [.slice none 0 0]))
 refine jx (G:=G) (_p:=0) (ways:=ways) (n:=n) (b:=b) (o:=o) (cap:=cap) (b2:=e) (o2:=f) (cap2:=n) (S:=S) (L:=aG t 0 (rK ways n b o cap)::hole G 1 248 (some ⟨b,o,none⟩) cap n b o::hole G 1 248 (some ⟨e,f,none⟩) n n e f::L') w hb ?_ n 0 h [] (by omega) ?_
 .intro h d;refine v q h ?_;have d:Hs G h (aG q 0 (rK ways n e f n)::hole G 1 248 (some ⟨e,f,none⟩) n n e f::dF n (fun i=>cR e (f+i*1) (S i))::aG t 0 (rK ways n b o cap)::hole G 1 248 (some ⟨b,o,none⟩) cap n b o::dF n (fun i=>cR b (o+i*1) (S i))::L'):=d.to;have d:=Be (b:=e) (o:=f) (cap:=n) d;have d:Hs G h (aG t 0 (rK ways n b o cap)::hole G 1 248 (some ⟨b,o,none⟩) cap n b o::dF n (fun i=>cR b (o+i*1) (S i))::hM G q ways n S::L'):=d.to;exact(Be (b:=b) (o:=o) (cap:=cap) d).lK
 .simp only[Nat.not_lt_zero,if_false];exact d.to
end
end Go.Proofs.YtajjljbmfdboaaaGreatDoor.C
section
open Go Go.Ab
attribute [local irreducible] bG Br pK sD tZ Cq mN wW lR Rs gX mT rA rG pJ kU zA vE V9 V4 Ro Ps Vv Qm Jp Nb Vm lB oL tX jK copyV iQ xK V7 V8 Hn lG Nc Sp V2 oA rY yU Ao Cl yO Vx tE sC kJ hT setLoop cT
namespace Go.Proofs.YtajjljbmfdboaaaGreatDoor.C
open Go Go.Ab Go.Hm Go.Ct
section
def jP (t:Nat) (C:bP) (core:Int) (s:gV):List Value:=pt t 0 0::(C.enc++[I core,I s.al,.bool s.aw,.bool s.Dm,I s.gl,I s.gc.st,I s.gc.w,I s.gc.d.1,I s.gc.d.2,.bool s.sE])
set_option maxRecDepth 100000
variable {G:Bg} {h:AH} {L L' M:List HP}
def gY (G:Bg) (c:Nat) (C:bP) (core:Int) (s:gV):HP:=vD fun t:Nat=>sp [aG c 0 (jP t C core s),hM G t C.ways.toNat C.aI.toNat s.S]
theorem kQ {c:Nat} {C:bP} {core:Int} {s:gV} (a:Hs G h (gY G c C core s::L)):∃t,Hs G h (aG c 0 (jP t C core s)::hM G t C.ways.toNat C.aI.toNat s.S::L):=by
 obtain⟨t,a⟩:=a.B4;exact⟨t,a.unpack⟩
theorem cX (c t:Nat) (C:bP) (core:Int) (s:gV) {cs:List Value} {S:Nat->List Th} {a L2:List HP} (f:Hs G h L) [m:Has (aG c 0) L cs a] [g:Has (hM G t C.ways.toNat C.aI.toNat) a S L2] (d:cs=jP t C core s) (e:S=s.S):Hs G h (gY G c C core s::L2):=by
 subst d;subst e;exact Hs.zX (A:=fun t:Nat=>sp [aG c 0 (jP t C core s),hM G t C.ways.toNat C.aI.toNat s.S]) t (Hs.pack (A:=[_,_]) (f.perm (m.perm.trans (g.perm.cons _))))
variable {C:bP} {core:Int} {c:Nat} {s:gV}
theorem xP (hC:C.Ok) {l:Int} {Q:Value->AH->Prop} (g:Ob G 0 eT) (a:Hs G h L) [m:Has (gY G c C core) L s L'] (d:∀e,Hs G e (gY G c C core s::L')->Q (.bool (rS C l)) e):Cl Pr K 255 [pt c 0 0,I l] h Q:=by
 obtain⟨t,a⟩:=kQ (m.of a);refine cW (dW (aX (fun f=>?_) (fun f=>?_)));refine aB (aA (an c a (l:=C.enc) rfl rfl (rB hC g a fun h a=>bA ?_)));show Q _ _;rw[show decide (l<(C.lines:Int))=rS C l from decide_eq_decide.2 (by omega)];exact d _ (cX c t C core s a rfl rfl);rw[show rS C l=false from decide_eq_false (by omega)] at d;exact d _ (cX c t C core s a rfl rfl)
theorem Qo (hC:C.Ok) (hb:Bd s) {l i:Int} {w:Bool} {Q:Value->AH->Prop} (k:Ob G 3 jD) (a:Hs G h L) [m:Has (gY G c C core) L s L'] (d:∀g,Hs G g (gY G c C core s::L')->Q (.bool (mH C.aI.toNat s.S l i w)) g):Cl Pr K 195 [pt c 0 0,I l,I i,.bool w] h Q:=by
 obtain⟨t,a⟩:=kQ (m.of a);refine cW (dD (cG (bW (aB (aA (am c a rfl ?_))))));refine Bz (t:=t) (ways:=C.ways.toNat) (n:=C.aI.toNat) (S:=s.S) (lF hC).1 hb a fun h a=>aH rfl (aH rfl (bQ a ?_));intro p h a;refine ax a ?_;intro h a;unfold mH at d;refine bH (aX (fun e=>aA (aD a rfl (bH (aX (fun f=>?_) (fun f=>?_))))) (fun e=>?_));rw[decide_eq_true e,decide_eq_true f,Bool.true_and,Bool.true_and] at d;exact aR a (by decide) (l:=(bB C.aI.toNat s.S l).1.enc) rfl rfl (Oc k a fun h a=>d _ (cX c t C core s a rfl rfl).to);rw[decide_eq_false f,Bool.and_false,Bool.false_and] at d;exact d _ (cX c t C core s a rfl rfl).to;rw[decide_eq_false e,Bool.false_and,Bool.false_and] at d;exact d _ (cX c t C core s a rfl rfl).to
theorem D4 (hC:C.Ok) (hb:Bd s) {l at' q:Int} {w:Bool} {Q:Value->AH->Prop} (t:Ob G 0 eT) (u:Ob G 3 jD) (d:Hs G h L) [m:Has (gY G c C core) L s L'] (a:∀k,Hs G k (gY G c C core s::L')->Q (I (lZ C s.S l at' q w)) k):Cl Pr K 248 [pt c 0 0,I l,I at',I q,.bool w] h Q:=by
 have d:=m.of d;unfold lZ at a;refine cW (dD (cG (bW (xP (c:=c) (core:=core) (s:=s) hC t d fun h d=>cH (eB (dI (fun g=>?_) (fun g=>?_)))))));rw[g] at a;simp only[Bool.true_eq_false,if_false] at a;refine bA (aX (fun e=>?_) (fun e=>dW (aX (fun f=>?_) (fun f=>bW (Qo (c:=c) (core:=core) (s:=s) hC hb u d fun h d=>cH (eB (dI (fun i=>?_) (fun i=>?_))))))));rw[aJ7 e] at a;exact a _ d;rw[aJ6 e,aJ7 f] at a;exact a _ d;rw[aJ6 e,aJ6 f,aJ6 (by rw[i];simp)] at a;exact a _ d;rw[aJ6 e,aJ6 f,aJ7 i] at a;exact a _ d;rw[aJ7 g] at a;exact a _ d
theorem Zi (hC:C.Ok) (hb:Bd s) {l at' k:Int} {Q:Value->AH->Prop} (x:Ob G 0 eT) (y:Ob G 3 jD) (a:Hs G h L) [m:Has (gY G c C core) L s L'] (d:∀v e q,Hs G q (gY G c C core (mL C s l at' k)::L')->Q (.tuple ⟨[I v,I e]⟩) q):Cl Pr K 197 [pt c 0 0,I l,I at',I k] h Q:=by
 have a:=m.of a;unfold mL at d;refine cW (D4 (c:=c) (core:=core) (s:=s) hC hb x y a fun h a=>bC (aX (fun g=>?_) (fun g=>?_)));rw[aJ6 g] at d;exact d _ _ _ a;have g:lZ C s.S l at' k false=0:=by omega
 rw[aJ7 g] at d;obtain⟨i,w,z,_⟩:=qJ g;obtain⟨t,a⟩:=kQ a;refine bW (aB (aA (am c a rfl (zE (t:=t) (ways:=C.ways.toNat) (n:=C.aI.toNat) (S:=s.S) i.1 (lF hC).1 hb a fun h a=>aH rfl (aH rfl (bQ a ?_))))));intro p h a;refine ax a ?_;intro h a;have f:=fun {h:AH} a=>(cX c t C core {s with S:=vR C.aI.toNat C.ways.toNat s.S l} (G:=G) (h:=h) (L:=aG p 0 (bB C.aI.toNat s.S l).1.enc::hM G t C.ways.toNat C.aI.toNat (vR C.aI.toNat C.ways.toNat s.S l)::aG c 0 (jP t C core s)::L') a rfl rfl);refine bC (aX (fun u=>d _ _ _ (f a).to) (fun u=>aA ?_));rcases w with rfl|rfl;exact dX (by decide) (by decide) (am p a rfl (d _ _ _ (f a).to));exact dX (by decide) (by decide) (am p a rfl (d _ _ _ (f a).to))
end
section
set_option maxRecDepth 100000
variable {G:Bg} {h:AH} {L L' M:List HP} {C:bP} {core:Int} {c:Nat} {s:gV}
theorem Vk {s':gV} {c t:Nat} {cs:List Value} {S:Nat->List Th} {a L2:List HP} (d:cs=jP t C core s') (e:S=s'.S) (f:Hs G h L) [m:Has (aG c 0) L cs a] [g:Has (hM G t C.ways.toNat C.aI.toNat) a S L2]:Hs G h (gY G c C core s'::L2):=cX c t C core s' f d e
theorem Ej (hC:C.Ok) (hb:Bd s) {l at' x v:Int} {Q:Value->AH->Prop} (D:Ob G 0 eT) (z:Ob G 3 jD) (a:Hs G h L) [m:Has (gY G c C core) L s L'] (g:∀e y,Hs G y (gY G c C core (iU C s l at' x v)::L')->Q (I e) y):Cl Pr K 198 [pt c 0 0,I l,I at',I x,I v] h Q:=by
 have a:=m.of a;unfold iU at g;refine cW (D4 (c:=c) (core:=core) (s:=s) hC hb D z a fun h a=>bC (aX (fun f=>?_) (fun f=>?_)));rw[aJ6 f] at g;exact g _ _ a;have f:lZ C s.S l at' x true=0:=by omega
 rw[aJ7 f] at g;obtain⟨w,B,J,d⟩:=qJ f;have d:tP (bB C.aI.toNat s.S l).1.st=true:=d;obtain⟨t,a⟩:=kQ a;refine bW (aB (aA (am c a rfl ?_)));refine Bz (t:=t) (ways:=C.ways.toNat) (n:=C.aI.toNat) (S:=s.S) (lF hC).1 hb a fun h a=>aH rfl (aH rfl (bQ a ?_));intro p h a;refine ax a ?_;intro h a;refine bC (aab (bW (aA (am p a rfl (Vn z a d (aH rfl (aH rfl (aA (ay (b:=p) (o:=0) a ?_)))))))));intro h a;refine bC (aab (bW (aA ?_)));have i:∀{k:Bool} {h:AH},Hs G h (aG p 0 (nZ C.aI.toNat s.S l at' v).enc::hM G t C.ways.toNat C.aI.toNat s.S::aG c 0 (jP t C core s)::L')->k=true->
   Rs k h 8 fun _ q=>bG (mT (pt c 0 0)) fun v5=>bG (gX 0 v5) fun v6=>bG (pK q v6) fun E=>bG (sD q 4 (pt p 0 0)) fun F=>Cl Pr K 251 [E,I l,F] q fun v9 A=>Q v9 A:=by
  intro k h a u
  refine aY (hc:=u) a ?_
  intro r h a
  refine aB (aA (am c a rfl (an p a (l:=(nZ C.aI.toNat s.S l at' v).enc) rfl rfl ?_)))
  refine Ac (t:=t) (ways:=C.ways.toNat) (n:=C.aI.toNat) (S:=s.S) w.1 (lF hC).1 hb a fun h a=>?_
  exact g _ _ (cX c t C core {s with S:=(jY C.aI.toNat C.ways.toNat s.S l (nZ C.aI.toNat s.S l at' v)).1} (cs:=jP t C core s) a rfl rfl).to
 rcases B with rfl|rfl;refine dX (by decide) (by decide) (ay (b:=p) (o:=0) a ?_);intro h a;exact i ((a.sg (b:=p) (o:=0) (c:=(nZ C.aI.toNat s.S l 0 v).enc) rfl).to) (by kernel_rfl);refine dX (by decide) (by decide) (ay (b:=p) (o:=0) a ?_);intro h a;exact i ((a.sg (b:=p) (o:=0) (c:=(nZ C.aI.toNat s.S l 1 v).enc) rfl).to) (by kernel_rfl)
theorem Zo {t:Nat} {l w:Int} {wr:Bool} {ns:List aJ} {a:Option Addr} {cp:Nat} {Q:Value->AH->Prop} (J:ns.length<=1) (d:Hs G h (aG c 0 (jP t C core (mO core s l w wr ns).1)::hM G t C.ways.toNat C.aI.toNat s.S::cN 9 175 a cp (ns.length,eM ns)::L))
  (E:∀e f B,Hs G B (cN 9 175 e f ((mO core s l w wr ns).2.1.length,eM (mO core s l w wr ns).2.1)::gY G c C core (mO core s l w wr ns).1::L)->Q (.tuple ⟨[.slice e (mO core s l w wr ns).2.1.length f,I 0]⟩) B):
  Br (.bool wr) (Dd 247 10 [] Q [(pt c 0 0),(I l),(I w),(.slice a ns.length cp)] h) (bG (mT (pt c 0 0)) fun v35=>bG (gX 8 v35) fun v36=>bG (pK h v36) fun z=>
   bG (oN [(I 0),(I 0),(I 0),(I 0),(I 0),(I 0),(I 0),(.bool false),(I 0)] [(0,1,(I 1)),(1,1,z),(2,1,(I l)),(3,1,(I w))]) fun k=>
   bG (oN [(I 0),(I 0),(I 0),(I 0),(I 0),(I 0),(I 0),(.bool false),(I 0)] [(0,9,(.agg ⟨k⟩))]) fun v=>
   wW h 9 175 v 1 1 fun y q=>bG (jK 9 72 175 q (.slice a ns.length cp) y) fun i=>(fun A u=>Q (.tuple ⟨[A,(I 0)]⟩) u) i.1 i.2):=by
 have fin:∀{h:AH} {e:Option Addr} {f:Nat} (x:aJ),x=⟨if wr then 2 else 1,core,l,w,0,0,0,false,0⟩->Hs G h (cN 9 175 e f (ns.length+1,eM ns++x.enc)::aG c 0 (jP t C core (mO core s l w wr ns).1)::hM G t C.ways.toNat C.aI.toNat s.S::L)->Q (.tuple ⟨[.slice e (ns.length+1) f,I 0]⟩) h:=by
  intro h e f x F d;have D:(mO core s l w wr ns).2.1=ns++[x]:=by rw[F];rfl
  have:=E e f h;rw[D] at this;simp only[List.length_append,List.length_cons,List.length_nil,eM,List.flatMap_append,List.flatMap_cons,List.flatMap_nil,List.append_nil,Nat.zero_add] at this;refine this ?_;have d:=Vk (s':=(mO core s l w wr ns).1) (t:=t) (c:=c) rfl rfl d;exact d.lK
 cases wr
 .refine cG (aB (aA (am c d rfl (aQ (c:=(⟨1,core,l,w,0,0,0,false,0⟩:aJ).enc) rfl (aQ (c:=(⟨1,core,l,w,0,0,0,false,0⟩:aJ).enc) rfl (dL (W:=9) (n:=1) (c:=1) d rfl rfl rfl ?_))))));intro g h d;refine nY (a:=a) (c:=cp) (n:=ns.length) (cs:=eM ns) (a2:=some g) (c2:=1) (m:=1) (ns:=(⟨1,core,l,w,0,0,0,false,0⟩:aJ).enc) d (by omega) ?_;intro e f h d;exact fin ⟨1,core,l,w,0,0,0,false,0⟩ rfl d.to
 .refine eU (bW (aB (aA (am c d rfl (aQ (c:=(⟨2,core,l,w,0,0,0,false,0⟩:aJ).enc) rfl (aQ (c:=(⟨2,core,l,w,0,0,0,false,0⟩:aJ).enc) rfl (dL (W:=9) (n:=1) (c:=1) d rfl rfl rfl ?_)))))));intro g h d;refine nY (a:=a) (c:=cp) (n:=ns.length) (cs:=eM ns) (a2:=some g) (c2:=1) (m:=1) (ns:=(⟨2,core,l,w,0,0,0,false,0⟩:aJ).enc) d (by omega) ?_;intro e f h d;exact fin ⟨2,core,l,w,0,0,0,false,0⟩ rfl d.to
theorem jk {t:Nat} {l w:Int} {wr:Bool} {ns:List aJ} {a:Option Addr} {cp:Nat} {Q:Value->AH->Prop} (k:ns.length<=1) (d:Hs G h (aG c 0 (jP t C core s)::hM G t C.ways.toNat C.aI.toNat s.S::cN 9 175 a cp (ns.length,eM ns)::L))
  (i:∀e f g,Hs G g (cN 9 175 e f ((mO core s l w wr ns).2.1.length,eM (mO core s l w wr ns).2.1)::gY G c C core (mO core s l w wr ns).1::L)->Q (.tuple ⟨[.slice e (mO core s l w wr ns).2.1.length f,I 0]⟩) g):
  Dd 247 8 [] Q [(pt c 0 0),(I l),(I w),(.bool wr),(.slice a ns.length cp)] h:=by
 refine bW (aQ (c:=[I l,.bool wr,.bool true]) rfl (aB (aA (ay (b:=c) (o:=0) d ?_))))
 intro h d
 have d:=d.sg (b:=c) (o:=0) (c:=jP t C core (mO core s l w wr ns).1) rfl
 exact Zo (t:=t) k d i
theorem y2 (_hb:Bd s) {t p:Nat} {l w no:Int} {x:pI} {wr:Bool} {S:Nat->List Th} {Q:Value->AH->Prop} (A:Ob G 3 jD) (d:Hs G h (aG p 0 x.enc::aG c 0 (jP t C core s)::hM G t C.ways.toNat C.aI.toNat S::L))
  (z:∀f g q r,r=mO core {s with S:=S,gl:=no,gc:=x,sE:=true} l w wr [⟨3,core,no,x.w,0,x.d.1,x.d.2,jF x.st,0⟩]->Hs G q (cN 9 175 f g (r.2.1.length,eM r.2.1)::gY G c C core r.1::L)->Q (.tuple ⟨[.slice f r.2.1.length g,I 0]⟩) q):
  Dd 247 11 [] Q [(pt c 0 0),(I l),(I w),(.bool wr),(.slice none 0 0),(I no),(pt p 0 0)] h:=by
 refine bW (aR d (by decide) (l:=x.enc) rfl rfl (aQ (c:=[I no,I x.st,I x.w,I x.d.1,I x.d.2,.bool true]) rfl (aB (aA (ay (b:=c) (o:=0) d ?_)))))
 intro h d
 have d:=d.sg (b:=c) (o:=0) (c:=jP t C core {s with S:=S,gl:=no,gc:=x,sE:=true}) rfl
 refine aY d ?_
 intro E h d
 refine aB (aA (am c d rfl (aA (am p d rfl (aA (an p d (l:=[I x.d.1,I x.d.2]) rfl rfl (aA (am p d rfl (Mj A d ?_)))))))))
 refine aQ (c:=(⟨3,core,no,x.w,0,x.d.1,x.d.2,jF x.st,0⟩:aJ).enc) rfl (aQ (c:=(⟨3,core,no,x.w,0,x.d.1,x.d.2,jF x.st,0⟩:aJ).enc) rfl ?_)
 refine jV (i:=14) (N:=17) (D:=[]) d rfl rfl rfl rfl rfl ?_
 intro y h d
 have d:=gK (W:=9) (e:=175) d
 refine nY (a:=none) (c:=0) (n:=0) (cs:=[]) (a2:=some y) (c2:=1) (m:=1) (ns:=(⟨3,core,no,x.w,0,x.d.1,x.d.2,jF x.st,0⟩:aJ).enc) d (by omega) ?_
 intro f g B u
 have k:Hs G h (aG p 0 x.enc::_):=d.front (aG p 0 x.enc)
 have v:Hs G h (aG c 0 (jP t C core {s with S:=S,gl:=no,gc:=x,sE:=true})::_):=d.front (aG c 0 (jP t C core {s with S:=S,gl:=no,gc:=x,sE:=true}))
 refine bT Hq (bT bZ (bT (aB bZ) (bT (aA bZ) (bT (am c v rfl gF) (bT gF (bT (aA bZ) (bT (am p k rfl gF) (bT (aA bZ) (bT (an p k (l:=[I x.d.1,I x.d.2]) rfl rfl (oP (by simp[nG]))) ?_)))))))))
 refine aQ (c:=[I l,.bool wr,.bool true]) rfl (aB (aA (ay (b:=c) (o:=0) u ?_)))
 intro h d
 have d:=d.sg (b:=c) (o:=0) (c:=jP t C core (mO core {s with S:=S,gl:=no,gc:=x,sE:=true} l w wr [⟨3,core,no,x.w,0,x.d.1,x.d.2,jF x.st,0⟩]).1) rfl
 refine Zo (t:=t) (s:={s with S:=S,gl:=no,gc:=x,sE:=true}) (ns:=[⟨3,core,no,x.w,0,x.d.1,x.d.2,jF x.st,0⟩]) (a:=f) (cp:=g) (L:=L) (by simp) ?_ (fun f g q=>z f g q _ rfl)
 exact(show Hs G h (aG c 0 (jP t C core (mO core {s with S:=S,gl:=no,gc:=x,sE:=true} l w wr [⟨3,core,no,x.w,0,x.d.1,x.d.2,jF x.st,0⟩]).1)::hM G t C.ways.toNat C.aI.toNat S::cN 9 175 f g (0+1,[]++(⟨3,core,no,x.w,0,x.d.1,x.d.2,jF x.st,0⟩:aJ).enc)::L) from d.to)
theorem uf (hC:C.Ok) (hb:Bd s) {t:Nat} {l w:Int} (y:0<=l) {wr:Bool} {Q:Value->AH->Prop} (z:Ob G 3 jD) (d:Hs G h (aG c 0 (jP t C core s)::hM G t C.ways.toNat C.aI.toNat s.S::L))
  (f:∀g i k,Hs G k (cN 9 175 g i ((A5 C core s l w wr).2.1.length,eM (A5 C core s l w wr).2.1)::gY G c C core (A5 C core s l w wr).1::L)->Q (.tuple ⟨[.slice g (A5 C core s l w wr).2.1.length i,I (A5 C core s l w wr).2.2]⟩) k):
  bG (mT (pt c 0 0)) fun v0=>bG (gX 0 v0) fun v1=>bG (pK h v1) fun v2=>Cl Pr K 292 [v2,I l] h fun v3 x=>
   bG (rA 0 v3) fun v4=>bG (rA 1 v3) fun v5=>bG (rA 2 v3) fun v6=>bG (vE .neq v6 (I 0)) fun B=>
   Br B (Q (.tuple ⟨[(.slice none 0 0),v6]⟩) x) (Dd 247 6 [] Q [(pt c 0 0),(I l),(I w),(.bool wr),(.slice none 0 0),v4,v5] x):=by
 unfold A5 at f
 refine aB (aA (am c d rfl ?_))
 refine jo (t:=t) (ways:=C.ways.toNat) (n:=C.aI.toNat) (S:=s.S) (lF hC).2.2.1 (lF hC).1 y hb d fun h d=>?_
 cases hv:yB C.aI.toNat C.ways.toNat s.S l with
 |none=>
  simp only[hv] at f
  refine aH rfl (aH rfl (aH rfl (bC (aab (bW (cG ?_))))))
  exact jk (t:=t) (s:=s) (ns:=[]) (a:=none) (cp:=0) (L:=L) (by simp) (show Hs G h (aG c 0 (jP t C core s)::hM G t C.ways.toNat C.aI.toNat s.S::cN 9 175 none 0 (0,[])::L) from(gK (W:=9) (e:=175) d).to) f
 |some v=>
  simp only[hv] at f
  refine aH rfl (aH rfl (aH rfl (bC (aab (bW (eU (bW (aB (aA (aA (am c d rfl (dI (fun q=>?_) (fun q=>?_)))))))))))))
  .simp only[q,if_true] at f;exact f none 0 h (gK (W:=9) (e:=175) (Vk (s':=s) (t:=t) (c:=c) rfl rfl d))
  .simp only[aJ6 (show ¬(s.sE=true) from by rw[q];simp)] at f;refine bW (aB (aA (am c d rfl ?_)));refine Q2 (t:=t) (ways:=C.ways.toNat) (n:=C.aI.toNat) (S:=s.S) (lF hC).1 hb d fun h d=>aH rfl (aH rfl (bQ d ?_));intro p h d;refine ax d ?_;intro h d;refine bC (aX (fun u=>?_) (fun u=>?_))
   .simp only[aJ7 u] at f;refine f none 0 h (gK (W:=9) (e:=175) ?_);exact(cX c t C core {s with S:=gE C.aI.toNat s.S v.1} (cs:=jP t C core s) d rfl rfl).to
   .simp only[aJ6 u] at f;refine y2 (s:=s) hb z (show Hs G h (aG p 0 (bB C.aI.toNat s.S v.1).1.enc::aG c 0 (jP t C core s)::hM G t C.ways.toNat C.aI.toNat (gE C.aI.toNat s.S v.1)::L) from d.to) ?_;intro g i k r A;subst A;exact f g i k
theorem zr (hC:C.Ok) (hb:Bd s) {l w:Int} {wr:Bool} {Q:Value->AH->Prop} (P:Ob G 0 eT) (D:Ob G 3 jD) (a:Hs G h L) [m:Has (gY G c C core) L s L']
  (d:∀g i q,Hs G q (cN 9 175 g i ((want C core s l w wr).2.1.length,eM (want C core s l w wr).2.1)::gY G c C core (want C core s l w wr).1::L')->Q (.tuple ⟨[.slice g (want C core s l w wr).2.1.length i,I (want C core s l w wr).2.2]⟩) q):
  Cl Pr K 247 [pt c 0 0,I l,I w,.bool wr] h Q:=by
 have a:=m.of a
 unfold want at d
 refine cW (dD (cG (bW (xP (c:=c) (core:=core) (s:=s) hC P a fun h a=>cH (eB (dI (fun y=>?_) (fun y=>?_)))))))
 .simp only[y,Bool.true_eq_false,if_false] at d;have F:0<=l:=(of_decide_eq_true y).1;obtain⟨t,a⟩:=kQ a;refine bW (aB (aA (aA (am c a rfl (dI (fun A=>?_) (fun A=>bW ?_))))))
  .simp only[A,if_true] at d;exact d none 0 h (gK (W:=9) (e:=175) (cX c t C core s a rfl rfl))
  .simp only[A,Bool.false_eq_true,if_false] at d;have x:¬(s.sE=true/\s.gl=l)->(bG (mT (pt c 0 0)) fun v0=>bG (gX 0 v0) fun v1=>bG (pK h v1) fun v2=>Cl Pr K 245 [v2,I l] h fun v3 f=>
     bG (rA 0 v3) fun v4=>bG (rA 1 v3) fun v5=>Cq f (.cells [(I 0),(I 0),(I 0),(I 0)] 157 (0,0) true) fun J O=>bG (tZ O 4 (pt J 0 0) v4) fun z=>bG (vE .eql v5 (I 0)) fun v9=>
     Br v9 (bG (sD z 4 (pt J 0 0)) fun v10=>Cl Pr K 246 [v10,.bool wr] z fun v11 v=>Br v11 (Q (.tuple ⟨[(.slice none 0 0),(I 13)]⟩) v) (Dd 247 5 [] Q [(pt c 0 0),(I l),(I w),(.bool wr)] v))
      (bG (mT (pt c 0 0)) fun v0=>bG (gX 0 v0) fun v1=>bG (pK z v1) fun v2=>Cl Pr K 292 [v2,I l] z fun v3 f=>
       bG (rA 0 v3) fun v4=>bG (rA 1 v3) fun v5=>bG (rA 2 v3) fun v6=>bG (vE .neq v6 (I 0)) fun R=>
       Br R (Q (.tuple ⟨[(.slice none 0 0),v6]⟩) f) (Dd 247 6 [] Q [(pt c 0 0),(I l),(I w),(.bool wr),(.slice none 0 0),v4,v5] f))):=by
    intro f
    simp only[aJ6 f] at d
    refine aB (aA (am c a rfl ?_))
    refine Bz (t:=t) (ways:=C.ways.toNat) (n:=C.aI.toNat) (S:=s.S) (lF hC).1 hb a fun h a=>aH rfl (aH rfl (bQ a ?_))
    intro p h a
    refine ax a ?_
    intro h a
    have E:Hs G h (aG c 0 (jP t C core s)::hM G t C.ways.toNat C.aI.toNat s.S::aG p 0 (bB C.aI.toNat s.S l).1.enc::L'):=a.to
    have k:∀{g i q} {X:List Value} {n:Nat} {N:gV},Hs G q (cN 9 175 g i (n,X)::gY G c C core N::aG p 0 (bB C.aI.toNat s.S l).1.enc::L')->Hs G q (cN 9 175 g i (n,X)::gY G c C core N::L'):=fun a=>a.to
    refine bH (aX (fun u=>?_) (fun u=>?_))
    .refine an p a (l:=(bB C.aI.toNat s.S l).1.enc) rfl rfl (Oc D a fun h a=>dI (fun B=>?_) (fun B=>?_))
     .simp only[aJ7 (show(bB C.aI.toNat s.S l).2=0/\lH (bB C.aI.toNat s.S l).1.st wr=true from⟨u,B⟩)] at d;exact d none 0 h (gK (W:=9) (e:=175) (cX c t C core s a rfl rfl).to)
     .simp only[aJ6 (show ¬((bB C.aI.toNat s.S l).2=0/\lH (bB C.aI.toNat s.S l).1.st wr=true) from fun e=>by rw[B] at e;exact absurd e.2 (by simp))] at d;refine bW (uf hC hb F D (show Hs G h (aG c 0 (jP t C core s)::hM G t C.ways.toNat C.aI.toNat s.S::L') from a.to) d)
    .simp only[aJ6 (show ¬((bB C.aI.toNat s.S l).2=0/\lH (bB C.aI.toNat s.S l).1.st wr=true) from fun e=>u e.1)] at d;exact uf hC hb F D E fun g i q a=>d g i q (k a)
   refine aB (aA (aA (am c a rfl (dI (fun f=>?_) (fun f=>?_)))))
   .refine aB (aA (aA (am c a rfl (bH (aX (fun u=>?_) (fun u=>bW (x (fun e=>u e.2))))))));simp only[aJ7 (show s.sE=true/\s.gl=l from⟨f,u⟩)] at d;exact d none 0 h (gK (W:=9) (e:=175) (cX c t C core s a rfl rfl))
   .exact x (fun e=>by rw[f] at e;exact absurd e.1 (by simp))
 .simp only[y,if_true] at d;exact d none 0 h (gK (W:=9) (e:=175) a)
end
section
set_option maxRecDepth 100000
variable {G:Bg} {h:AH} {L L' M:List HP} {C:bP} {core:Int} {c:Nat} {s:gV} {n:aJ}
theorem rJ {a:gV} {Q:Value->AH->Prop} {e:Int} {r:Tk} (i:∀d f g,Hs G g (cN 9 175 d f (r.2.1.length,eM r.2.1)::gY G c C core r.1::L)->Q (.tuple ⟨[.slice d r.2.1.length f,I r.2.2]⟩) g) (k:r=(a,[],e)) (q:Hs G h (gY G c C core a::L)):Q (.tuple ⟨[.slice none 0 0,I e]⟩) h:=by
 subst k;exact i none 0 h (gK (W:=9) (e:=175) q)
theorem Lv {a:gV} {x:aJ} {p:Addr} {Q:Value->AH->Prop} {r:Tk} (i:∀d f g,Hs G g (cN 9 175 d f (r.2.1.length,eM r.2.1)::gY G c C core r.1::L)->Q (.tuple ⟨[.slice d r.2.1.length f,I r.2.2]⟩) g) (k:r=(a,[x],0)) (q:Hs G h (cN 9 175 (some p) 1 (1,x.enc)::gY G c C core a::L)):Q (.tuple ⟨[.slice (some p) 1 1,I 0]⟩) h:=by
 subst k;refine i (some p) 1 h ?_;have e:eM [x]=x.enc:=by simp[eM]
 simp only[e,List.length_cons,List.length_nil,Nat.zero_add];exact q
abbrev Zs (G:Bg) (c:Nat) (C:bP) (core:Int) (L:List HP) (Q:Value->AH->Prop) (r:Tk):Prop:=∀a d e,Hs G e (cN 9 175 a d (r.2.1.length,eM r.2.1)::gY G c C core r.1::L)->Q (.tuple ⟨[.slice a r.2.1.length d,I r.2.2]⟩) e
theorem yc {Q:Value->AH->Prop} (d:Hs G h (gY G c C core s::L)) (i:Zs G c C core L Q (Ex s n)):Cl Pr K 299 [pt c 0 0,.agg ⟨n.enc⟩] h Q:=by
 obtain⟨t,d⟩:=kQ d;refine cW (dR d ?_);intro p h d;refine aY d ?_;intro r h d;refine aB (aA (aA (am c d rfl (cH (eB (dI (fun g=>?_) (fun g=>?_)))))));refine aB (aA (aA (am c d rfl (aA (am p d rfl (bC (aX (fun f=>?_) (fun f=>?_))))))));exact rJ i (a:=s) (e:=16) (by simp[Ex,g,f]) (cX c t C core s d rfl rfl).to;refine bW (aQ (c:=[I 0,.bool false,.bool false]) rfl (aB (aA (ay (b:=c) (o:=0) d ?_))));intro h d;have f:s.al=n.line:=by simpa using f
 exact rJ i (a:={s with al:=0,aw:=false,Dm:=false}) (e:=0) (by simp[Ex,g,f]) (cX c t C core {s with al:=0,aw:=false,Dm:=false} d rfl rfl).to;exact rJ i (a:=s) (e:=16) (by simp[Ex,g]) (cX c t C core s d rfl rfl).to
theorem ez {Q:Value->AH->Prop} (d:Hs G h (gY G c C core s::L)) (i:Zs G c C core L Q (sA s n)):Cl Pr K 300 [pt c 0 0,.agg ⟨n.enc⟩] h Q:=by
 obtain⟨t,d⟩:=kQ d;refine cW (dR d ?_);intro p h d;refine aY d ?_;intro r h d;refine aB (aA (aA (am c d rfl (cH (eB (dI (fun g=>?_) (fun g=>?_)))))));refine aB (aA (aA (am c d rfl (aA (am p d rfl (bC (aX (fun f=>?_) (fun f=>?_))))))));exact rJ i (a:=s) (e:=12) (by simp[sA,g,f]) (cX c t C core s d rfl rfl).to;refine bW (aQ (c:=[I 0,I 0,I 0,I 0,I 0,.bool false]) rfl (aB (aA (ay (b:=c) (o:=0) d ?_))));intro h d;have f:s.gl=n.line:=by simpa using f
 exact rJ i (a:={s with gl:=0,gc:=pI.zero,sE:=false}) (e:=0) (by simp[sA,g,f]) (cX c t C core {s with gl:=0,gc:=pI.zero,sE:=false} d rfl rfl).to;exact rJ i (a:=s) (e:=12) (by simp[sA,g]) (cX c t C core s d rfl rfl).to
theorem zt {t p:Nat} {S:Nat->List Th} {Q:Value->AH->Prop} {r:Tk} (d:Hs G h (aG p 0 n.enc::aG c 0 (jP t C core s)::hM G t C.ways.toNat C.aI.toNat S::L)) (e:Zs G c C core L Q r) (f:r=({s with S:=S,al:=0,aw:=false,Dm:=false},[⟨4,core,n.line,0,0,0,0,false,0⟩],0)):
  Dd 298 4 [] Q [(pt c 0 0),(pt p 0 0)] h:=by
 refine bW (aQ (c:=[I 0,.bool false,.bool false]) rfl (aB (aA (ay (b:=c) (o:=0) d ?_))))
 intro h d
 refine aY d ?_
 intro g h d
 refine aB (aA (am c d rfl (aA (am p d rfl ?_))))
 refine aQ (c:=(⟨4,core,n.line,0,0,0,0,false,0⟩:aJ).enc) rfl (aQ (c:=(⟨4,core,n.line,0,0,0,0,false,0⟩:aJ).enc) rfl ?_)
 refine jV (i:=7) (N:=10) (D:=[]) d rfl rfl rfl rfl rfl ?_
 intro a h d
 refine Lv e (p:=a) f ?_
 have d:=cX c t C core {s with S:=S,al:=0,aw:=false,Dm:=false} d rfl rfl
 exact d.to
theorem Es (hC:C.Ok) (hb:Bd s) {Q:Value->AH->Prop} (g:0<=n.line) (d:Hs G h (gY G c C core s::L)) (v:Zs G c C core L Q (vB C core s n)):Cl Pr K 298 [pt c 0 0,.agg ⟨n.enc⟩] h Q:=by
 obtain⟨t,d⟩:=kQ d;refine cW (dR d ?_);intro p h d;refine aY d ?_;intro r h d;refine aB (aA (aA (am c d rfl (cH (eB (dI (fun q=>?_) (fun q=>?_)))))));refine aB (aA (aA (am c d rfl (aA (am p d rfl (bC (aX (fun k=>?_) (fun k=>?_))))))));exact rJ v (a:=s) (e:=16) (by simp[vB,q,k]) (cX c t C core s d rfl rfl).to;have k:s.al=n.line:=by simpa using k
 refine bW (aA (am p d rfl (aA (am p d rfl (aA (an p d (l:=[I n.d0,I n.d1]) rfl rfl ?_))))));refine aQ (c:=(⟨n.state,n.world,(n.d0,n.d1)⟩:pI).enc) rfl (bQ d ?_);intro u h d;refine ax d ?_;intro h d;refine aY d ?_;intro E h d;refine aB (aA (am c d rfl (aA (am p d rfl ?_))));refine Bz (t:=t) (ways:=C.ways.toNat) (n:=C.aI.toNat) (S:=s.S) (lF hC).1 hb d fun h d=>aH rfl (aH rfl ?_);refine jM (i:=10) d rfl rfl ?_;intro A h d;refine ax d ?_;intro h d;have fin:∀{w:Bool} {h:AH},w=true->Hs G h (aG u 0 (iT C s n).enc::aG p 0 n.enc::aG c 0 (jP t C core s)::hM G t C.ways.toNat C.aI.toNat s.S::L)->
   (Rs w h 9 fun D g=>bG (mT (pt c 0 0)) fun v2=>bG (gX 0 v2) fun v3=>bG (pK g v3) fun v4=>bG (gX 2 (pt p 0 0)) fun v5=>bG (pK g v5) fun v6=>bG (sD g 4 (pt u 0 0)) fun B=>
    Cl Pr K 251 [v4,v6,B] g fun z y=>bG (vE .neq z (I 0)) fun v9=>Br v9 (Q (.tuple ⟨[(.slice none 0 0),z]⟩) y) (Dd 298 4 [] Q [(pt c 0 0),(pt p 0 0)] y)):=by
  intro w h x d
  refine aY (hc:=x) d ?_
  intro r3 h d
  refine aB (aA (am c d rfl (aA (am p d rfl (an u d (l:=(iT C s n).enc) rfl rfl ?_)))))
  refine Ac (t:=t) (ways:=C.ways.toNat) (n:=C.aI.toNat) (S:=s.S) g (lF hC).1 hb d fun h d=>?_
  refine bC (aX (fun f=>?_) (fun f=>?_))
  .refine rJ v (a:={s with S:=(jY C.aI.toNat C.ways.toNat s.S n.line (iT C s n)).1}) (by simp[vB,q,k,f]) ?_;exact(cX c t C core {s with S:=(jY C.aI.toNat C.ways.toNat s.S n.line (iT C s n)).1} (cs:=jP t C core s) d rfl rfl).to
  .have f:(jY C.aI.toNat C.ways.toNat s.S n.line (iT C s n)).2=0:=by simpa using f
   exact zt (t:=t) (S:=(jY C.aI.toNat C.ways.toNat s.S n.line (iT C s n)).1) (s:=s) (n:=n) d.to v (by simp[vB,q,k,f])
 refine bT (aH rfl gF) (bH (aX (fun f=>bW ?_) (fun f=>bW (fin (by kernel_rfl) ?_))));refine aA (an A d (l:=[I (bB C.aI.toNat s.S n.line).1.d.1,I (bB C.aI.toNat s.S n.line).1.d.2]) rfl rfl (aA (ay (b:=u) (o:=0) d ?_)));intro h d;have e:iT C s n=⟨n.state,n.world,(bB C.aI.toNat s.S n.line).1.d⟩:=by simp[iT,f]
 have d:=d.sg (b:=u) (o:=0) (c:=(iT C s n).enc) (by rw[e];rfl);exact fin (by kernel_rfl) d.to;have e:iT C s n=⟨n.state,n.world,(n.d0,n.d1)⟩:=by simp[iT,f]
 rw[e];exact d.to;exact rJ v (a:=s) (e:=16) (by simp[vB,q]) (cX c t C core s d rfl rfl).to
end
end Go.Proofs.YtajjljbmfdboaaaGreatDoor.C
end
