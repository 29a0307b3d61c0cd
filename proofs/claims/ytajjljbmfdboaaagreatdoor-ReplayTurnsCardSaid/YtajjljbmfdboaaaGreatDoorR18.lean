/- A part of the proof. -/
import Derived.Test.YtajjljbmfdboaaaGreatDoorR16
import Derived.Test.YtajjljbmfdboaaaGreatDoorR17
section
open Go Go.Ab
attribute [local irreducible] bG Br pK sD tZ Cq mN wW lR Rs gX mT rA rG pJ kU zA vE V9 V4 Ro Ps Vv Qm Jp Nb Vm lB oL tX jK copyV iQ xK V7 V8 Hn lG Nc Sp V2 oA rY yU Ao Cl yO Vx tE sC kJ hT setLoop cT
namespace Go.Proofs.YtajjljbmfdboaaaGreatDoor
open Go Go.Ab Go.Hm Go.At Go.Mc Go.Ct Go.Nt Go.Is
section
theorem aBc {a n:Int} (c:0<n): -n<a.tmod n/\a.tmod n<n:=by
 have b:=Int.natAbs_tmod a n;have:=Nat.mod_lt a.natAbs (y:=n.natAbs) (by omega);omega
theorem aDw {x b:Int} (a:b≠0) (hb: -9223372036854775808<=b/\b<=9223372036854775807):wr (x+b)≠x:=by
 show IntKind.i64.wrap (x+b)≠x;rw[IntKind.wrap_i64];omega
theorem aBi {a:Int} {n:Nat} (d:0<n):∃i:Nat,i<n/\(a.tmod n+n) % n=i:=by
 obtain⟨i,c⟩:=Int.eq_ofNat_of_zero_le (Int.emod_nonneg (a.tmod n+n) (b:=(n:Int)) (by omega));have:=Int.emod_lt_of_pos (a.tmod n+n) (b:=(n:Int)) (by omega);exact⟨i,by omega,c⟩
theorem vy:∀(c:List Value) (j:Nat) (v:Value),dN c j [v]=c.set j v
 |[],0,_=>rfl
 |[],_+1,_=>rfl
 |_::c,0,_=>by unfold dN;rw[List.set_cons_zero];cases c<;>rfl
 |_::c,j+1,v=>by unfold dN;rw[vy c j v,List.set_cons_succ]
theorem aCd {α:Type} {enc:α->List Value} {W:Nat} [F:Fx enc W] {l:List α} {n j:Nat} {x y:α} {v:Value} (b:l[n]?=some x) (f:j<W) (g:(enc x).set j v=enc y):dN (eL enc l) (n*W+j) [v]=eL enc (l.set n y):=by
 have a:=(List.getElem?_eq_some_iff.1 b).1;rw[vy,<-Wd a,<-lS _ _ _ (by rw[sS,F.len,<-Nat.succ_mul];exact Nat.mul_le_mul_right _ a)];have e:=Z0 (enc:=enc) b;have i:n*W+W<=(eL enc l).length:=by rw[sS,<-Nat.succ_mul];exact Nat.mul_le_mul_right _ a
 have c:eL enc l=(eL enc l).take (n*W)++(enc x++(eL enc l).drop (n*W+W)):=by
  rw[<-e,<-List.drop_drop,List.take_append_drop,List.take_append_drop]
 have d:((eL enc l).take (n*W)).length=n*W:=by rw[List.length_take];omega
 unfold cC;rw[F.len,<-g];conv=>lhs;rw[c]
 rw[List.set_append_right _ _ (by omega),d,Nat.add_sub_cancel_left,List.set_append_left _ _ (by rw[F.len];exact f),List.append_assoc]
set_option maxRecDepth 100000
variable {G:Bg} {h:AH} {L L':List HP} {Q:Value->AH->Prop} {Cf:bP} {m N:Nat} {M:dB}
theorem dV (a:Q (.bool true) h):Cl Pr K 47 [] h Q:=by
 unfold Cl;exact qg (v:= .bool true) rfl a
theorem aAj {α:Type} {enc:α->List Value} {W:Nat} [F:Fx enc W] {e:TypeId} {a:Option Addr} {c j:Nat} {l:List α} {i:Int} {x y:α} {v:Value} {k:AH->Prop} (g:Hs G h L) [m:Has (ls enc W e a c) L l L'] [C:Cv v [v]] (w:0<=i) (s:l[i.toNat]?=some x) (z:j<W) (B:(enc x).set j v=enc y) (hc:eF v=true)
  (A:∀f,Hs G f (ls enc W e a c (l.set i.toNat y)::L')->k f):bG (lB W (.slice a l.length c) (I i)) fun p=>bG (gX j p) fun q=>bG (tZ h 1 q v) k:=by
 obtain⟨n,rfl⟩:=Int.eq_ofNat_of_zero_le w
 rw[Int.toNat_natCast] at s
 have t:n<l.length:=(List.getElem?_eq_some_iff.1 s).1
 have g:Hs G h (cN W e a c (l.length,eL enc l)::L'):=m.of g
 obtain⟨b,o,rfl,r⟩:=g.gD (by omega)
 refine dM t (aA ?_)
 rw[show pt b (o+n*W) (0+j)=pt b o (n*W+j) by simp[pt,Nat.add_assoc]]
 have hle:n*W+W<=(eL enc l).length:=by rw[sS,<-Nat.succ_mul];exact Nat.mul_le_mul_right _ t
 refine bJ r (vs:=[v]) rfl (Nat.ble_eq_true_of_le (by omega)) (by simp[hc]) (Nat.ble_eq_true_of_le (by omega)) fun f d=>?_
 have u:dN (eL enc l) (n*W+j) [v]=eL enc (l.set n y):=by
  exact aCd s z B
 rw[u] at d
 have:=A f
 rw[Int.toNat_natCast] at this
 refine this ?_
 unfold ls
 rw[List.length_set]
 exact Hs.kZ d (by rw[sS,List.length_set]) F2
theorem Qi {a:Option Addr} {c:Nat} {l:List Ev}:A.RdE G (B5 a c l) (.slice a l.length c) l:=by
 refine⟨fun {h L L' k i x} d g f b=>?_,fun b=>bU b⟩;have d:Hs G h (B5 a c l::L'):=d.perm g.perm;exact tO (l:=l) (a:=a) (c:=c) (enc:=Ev.enc) (e:=80) d (by decide) (by omega) (by rw[Int.toNat_natCast];exact f) b
theorem sb {S:Nat->aK} {g:AM} {lv t3 t5:Value} {l:List Do} (hC:Cf.Ok) (hG:Gb G) (t:l.length<=400) (k:Rx G lv l) (q:∀j o,Mc.RA Cf g S 1000 j->j.log.length<=1000->Hs G o (bX G Cf m j::L)->Dd 13 5 [] Q [t3,t5,(pt m 0 0)] o):
  ∀(f i:Nat) (M:dB) (h:AH),i+f=l.length->Mc.RA Cf g S (2*i) M->Hs G h (bX G Cf m M::L)->Dd 13 3 [] Q [lv,t3,t5,(pt m 0 0),(I i)] h:=by
 intro f
 induction f with
 |zero=>
  intro i M h p hA b
  have e:Mc.RA Cf g S 1000 M:=⟨⟨hA.all.inv.mono (by omega),hA.all.wait,hA.all.mr⟩,hA.rx⟩
  exact bW (fj k (bA (aab (q _ _ e e.all.len b))))
 |succ f s=>
  intro i M h p hA b
  obtain⟨d,r,_⟩:=nL (l:=l) (i:=i) (by omega)
  have b:=Zr k b
  refine bW (fj k (bA (aae (bW (zh b (by decide) (W2 r) (aQ (c:=d.enc) rfl (dL (W:=4) (n:=1) (c:=1) b.tail rfl rfl rfl fun a h b=>?_)))))))
  exact oy (M:=M) hC hG hA.all.inv (by omega) b fun h b=>aad (s (i+1) _ h (by omega) (hA.C9 hC) b)
theorem oz {S:Nat->aK} {g:AM} {lv t2 t3:Value} {l:List Do} (hC:Cf.Ok) (hG:Gb G) (t:l.length<=400) (k:Rx G lv l) (q:∀j o,Mc.RA Cf g S 1000 j->j.log.length<=1000->Hs G o (bX G Cf m j::L)->Dd 14 5 [] Q [t2,t3,(pt m 0 0)] o):
  ∀(f i:Nat) (M:dB) (h:AH),i+f=l.length->Mc.RA Cf g S (2*i) M->Hs G h (bX G Cf m M::L)->Dd 14 3 [] Q [lv,t2,t3,(pt m 0 0),(I i)] h:=by
 intro f
 induction f with
 |zero=>
  intro i M h p hA b
  have e:Mc.RA Cf g S 1000 M:=⟨⟨hA.all.inv.mono (by omega),hA.all.wait,hA.all.mr⟩,hA.rx⟩
  exact bW (fj k (bA (aab (q _ _ e e.all.len b))))
 |succ f s=>
  intro i M h p hA b
  obtain⟨d,r,_⟩:=nL (l:=l) (i:=i) (by omega)
  have b:=Zr k b
  refine bW (fj k (bA (aae (bW (zh b (by decide) (W2 r) (aQ (c:=d.enc) rfl (dL (W:=4) (n:=1) (c:=1) b.tail rfl rfl rfl fun a h b=>?_)))))))
  exact oy (M:=M) hC hG hA.all.inv (by omega) b fun h b=>aad (s (i+1) _ h (by omega) (hA.C9 hC) b)
theorem ia {p2 p5:Nat} {a b:Int} {pv s ov vv:Value} {ps:List (List Ins)} {ws os vs:List Int} {F:AM} (hb: -9223372036854775808<=b/\b<=9223372036854775807) (R:ps.length<=1000/\ws.length<1000/\os.length<1000) (P:Ob G 0 eT) (K:Ob G 1 sI) (S:A.Nv G pv s ov vv ps ws os vs) (B:oI Cf ps ws os vs=0)
  (J:dA (rM Cf ps ws os vs) M.log 0=(F,M.log.length,0)) (C:M.log.length<=1000) (d:Hs G h (bX G Cf m M::aG p5 0 [I a,I b]::aG p2 0 (Gr Cf pv s ov vv)::L)) (w:∀H,Q (.bool true) H):Dd 13 5 [] Q [pt p2 0 0,pt p5 0 0,pt m 0 0] h:=by
 refine bW (K4 (Cf:=Cf) (M:=M) (by omega) d fun a1 g h d=>bU (bH (aX (fun _=>dV (w _)) (fun X=>fQ (i:=1) (by decide) (am p5 d (v:=I b) rfl (bH (aX (fun _=>dV (w _)) (fun t=>bW ?_))))))))
 refine fQ (i:=0) (by decide) (am p5 d (v:=I a) rfl (bU ?_))
 have Y:=aBc (a:=a) (n:=(M.log.length:Int)) (by omega)
 refine Yb (by omega) (bU (aad (bU (Me (by omega) (by omega) ?_))))
 obtain⟨k,O,z⟩:=aBi (a:=a) (n:=M.log.length) (by omega)
 rw[z]
 obtain⟨x,D,_⟩:=nL (l:=M.log) (i:=k) (by omega)
 have q:M.log[((k:Nat):Int).toNat]?=some x:=by rw[Int.toNat_natCast];exact D
 refine aY d fun Z h d=>cy (l:=M.log) (a:=a1) (c:=g) (enc:=Ev.enc) (e:=80) d (by omega) q (j:=5) (u:=I x.value) rfl (fQ (i:=1) (by decide) (am p5 d (v:=I b) rfl (Li ?_)))
 refine aAj (l:=M.log) (a:=a1) (c:=g) (enc:=Ev.enc) (e:=80) (x:=x) (y:={x with value:=wr (x.value+b)}) d (by omega) q (by decide) rfl rfl fun h d=>?_
 rw[Int.toNat_natCast] at d
 obtain⟨T,f⟩:=Mc.N4 (y:={x with value:=wr (x.value+b)}) (by rw[J]) D rfl rfl (fun e=>aDw (x:=x.value) t hb (congrArg Ev.value e))
 rw[Nat.zero_add] at f
 have p:M.log.length=(M.log.set k {x with value:=wr (x.value+b)}).length:=by rw[List.length_set]
 rw[p]
 generalize M.log.set k {x with value:=wr (x.value+b)}=l2 at*
 have E:A.RA G (B5 a1 g l2) Cf pv s ov vv (.slice a1 l2.length g) ps ws os vs l2:=⟨R,P,K,S,Qi,by omega⟩
 refine an p2 d (l:=Gr Cf pv s ov vv) rfl rfl (A.qX E (d.front (B5 a1 g l2)) (fun e=>?_) fun _ _ h d=>?_)
 .rcases e with e|e
  .exact(e B).elim
  .rw[f] at e;cases e
 refine aH rfl (aH rfl (an p2 d (l:=Gr Cf pv s ov vv) rfl rfl (A.Lh E (d.front (B5 a1 g l2)) (fun e=>(e B).elim) fun _ U d1 V d2 W d3 h d=>?_)))
 rw[f] at d ⊢
 dsimp only
 refine aH rfl (aH rfl (bQ d fun r h d=>ax (b:=r) (o:=0) d fun h d=>bH (bS rfl (eU (aA (am r d rfl (bH (bS rfl (bH (bS rfl (dV (w _))))))))))))
theorem bp {n d c2:Nat} {a1 a2:Option Addr} {F:Nat->Int} (p:n<=1000) (b:Hs G h (cN 1 3 a1 d (n,(List.range n).map fun i=>I (F i))::cN 1 3 a2 c2 (n,(List.range n).map fun i=>I (F i))::L))
  (l:∀g,Hs G g L->Q (.bool true) g):Cl Pr K 52 [.slice a1 n d,.slice a2 n c2] h Q:=by
 have loop:∀(f i:Nat) (h:AH),i+f=n->Hs G h (cN 1 3 a1 d (n,(List.range n).map fun i=>I (F i))::cN 1 3 a2 c2 (n,(List.range n).map fun i=>I (F i))::L)->Dd 52 2 [] Q [.slice a1 n d,.slice a2 n c2,I i] h:=by
  intro f;induction f with
  |zero=>intro i h k b;exact bW (bU (bA (aab (l _ b.to))))
  |succ f o=>
   intro i h k b;have j:((List.range n).map fun i=>I (F i))[i]?=some (I (F i)):=by rw[List.getElem?_map,List.getElem?_range (by omega)];rfl
   exact bW (bU (bA (aae (bW (aY b fun q h b=>Gd (a:=a1) (c:=d) (e:=3) b j (Gd (a:=a2) (c:=c2) (e:=3) b j (bC (aU (by simp) (bW (aad (o (i+1) h (by omega) b.to)))))))))))
 exact cW (bU (bU (bC (aU (by simp) (bW (loop n 0 h (by omega) b))))))
theorem s6 {n d c2:Nat} {a1 a2:Option Addr} {F:Nat->aK} (u:n<=1000) (b:Hs G h (cN 7 30 a1 d (n,(List.range n).flatMap fun i=>(F i).core)::cN 7 30 a2 c2 (n,(List.range n).flatMap fun i=>(F i).core)::L))
  (r:∀j,Hs G j L->Q (.bool true) j):Cl Pr K 51 [.slice a1 n d,.slice a2 n c2] h Q:=by
 have loop:∀(f i:Nat) (h:AH),i+f=n->Hs G h (cN 7 30 a1 d (n,(List.range n).flatMap fun i=>(F i).core)::cN 7 30 a2 c2 (n,(List.range n).flatMap fun i=>(F i).core)::L)->Dd 51 2 [] Q [.slice a1 n d,.slice a2 n c2,I i] h:=by
  intro f;induction f with
  |zero=>intro i h q b;exact bW (bU (bA (aab (r _ b.to))))
  |succ f s=>
   intro i h q b;have k:(((List.range n).flatMap fun i=>(F i).core).drop (i*7)).take 7=(F i).core:=by
    have g:i<n:=by omega
    obtain⟨t,l,o,p,_⟩:=bg (W:=7) (c:=fun i=>(F i).core) (fun _=>rfl) n g;rw[o,<-p,List.drop_left];exact List.take_left' rfl
   refine bW (bU (bA (aae (bW (aY b fun v h b=>Q0 (W:=7) (a:=a1) (c:=d) (e:=30) b (by decide) (by omega) k rfl (Q0 (W:=7) (a:=a2) (c:=c2) (e:=30) b (by decide) (by omega) k rfl (qn (cG (bW ?_)))))))));exact aad (s (i+1) h (by omega) b.to)
 exact cW (bU (bU (bC (aU (by simp) (bW (loop n 0 h (by omega) b))))))
theorem dm {p2:Nat} {a:Int} {pv u ov vv:Value} {ps:List (List Ins)} {ws os vs:List Int} {f:AM} (hC:Cf.Ok) (W:ps.length<=1000/\ws.length<1000/\os.length<1000) (U:Ob G 0 eT) (T:Ob G 1 sI) (X:A.Nv G pv u ov vv ps ws os vs) (E:oI Cf ps ws os vs=0)
  (D:dA (rM Cf ps ws os vs) M.log 0=(f,M.log.length,0)) (V:M.log.length<=1000) (d:Hs G h (bX G Cf m M::aG p2 0 (Gr Cf pv u ov vv)::L)) (j:∀h',Q (.bool true) h'):Dd 14 5 [] Q [I a,pt p2 0 0,pt m 0 0] h:=by
 refine bW (K4 (Cf:=Cf) (M:=M) (by omega) d fun a1 p h d=>bU (bA (aX (fun _=>dV (j _)) (fun h0=>bW (bU (rL (by omega) ?_))))))
 have hr:=aBc (a:=a) (n:=((M.log.length - 1:Nat):Int)) (by omega)
 rw[show(M.log.length:Int) - 1=((M.log.length - 1:Nat):Int) by omega]
 refine Yb (by omega) (aad (Me (by omega) (by omega) ?_))
 obtain⟨k,α,J⟩:=aBi (a:=a) (n:=M.log.length - 1) (by omega)
 rw[J]
 obtain⟨x,Y,_⟩:=nL (l:=M.log) (i:=k) (by omega)
 have P:M.log[((k:Nat):Int).toNat]?=some x:=by rw[Int.toNat_natCast];exact Y
 obtain⟨y,Z,_⟩:=nL (l:=M.log) (i:=k+1) (by omega)
 have R:M.log[((k:Int)+1).toNat]?=some y:=by rw[show((k:Int)+1).toNat=k+1 by omega];exact Z
 refine tO (l:=M.log) (a:=a1) (c:=p) (enc:=Ev.enc) (e:=80) d (by decide) (by omega) P (bQ d fun t h d=>ax (b:=t) d fun h d=>aad ?_)
 refine tO (l:=M.log) (a:=a1) (c:=p) (enc:=Ev.enc) (e:=80) d (by decide) (by omega) R (bQ d fun g h d=>ax (b:=g) d fun h d=>?_)
 obtain⟨O,r⟩:=A.Mw M.log (rM Cf ps ws os vs) 0 (A.Il E)
 rw[D] at O r
 have r:f.cfg=Cf:=r
 have β:=bP.fN hC
 have s:f.cfg.aE.toNat<=1000/\f.cfg.aN.toNat<=1000/\f.cfg.lines*2<=1000:=by rw[r];have:=hC.1;have:=hC.2.1;omega
 have z:∀{k0:Value->Prop},k0 (.bool (decide (x.core=y.core)))->bG (gX 0 (pt t 0 0)) fun q=>bG (pK h q) fun v=>bG (gX 0 (pt g 0 0)) fun q=>bG (pK h q) fun w=>bG (vE .eql v w) k0:=fun j=>aA (am t d (v:=I x.core) rfl (aA (am g d (v:=I y.core) rfl (bH j))))
 refine aA (am t d (v:=I x.op) rfl (bH (aX (fun e1=>aA (am g d (v:=I y.op) rfl (bH (aX (fun _=>z (aX (fun _=>dV (j _)) (fun _=>dV (j _)))) (fun e2=>aA (am g d (v:=I y.op) rfl (vV (z (aX (fun _=>dV (j _)) (fun H=>dI (fun _=>dV (j _)) (fun F=>bW ?_))))))))))) (fun e1=>aA (am t d (v:=I x.op) rfl (vV (dI (fun _=>aA (am g d (v:=I y.op) rfl (bH (aX (fun _=>z (aX (fun _=>dV (j _)) (fun _=>dV (j _)))) (fun e2=>aA (am g d (v:=I y.op) rfl (vV (z (aX (fun _=>dV (j _)) (fun H=>dI (fun _=>dV (j _)) (fun F=>bW ?_))))))))))) (fun F=>z (aX (fun _=>dV (j _)) (fun H=>?_))))))))))
 all_goals
  have ha:¬((x.op=3\/x.op=4\/x.op=5\/x.op=8)/\(y.op=3\/y.op=4\/y.op=5\/y.op=8)):=by simp only[xN,decide_eq_false_iff_not] at F;omega
  have B:=Mc.Kp (l:=M.log) (A:=rM Cf ps ws os vs) (n:=0) (Pq E) (by rw[D]) Y Z H ha
  rw[D] at B
  have ra:A.RA G (B5 a1 p M.log) Cf pv u ov vv (.slice a1 M.log.length p) ps ws os vs M.log:=⟨W,U,T,X,Qi,by omega⟩
  refine an p2 d (l:=Gr Cf pv u ov vv) rfl rfl (A.Lh ra (d.front (B5 a1 p M.log)) (fun e=>(e E).elim) fun _ b1 d1 b2 d2 b3 d3 h d=>?_)
  rw[D] at d ⊢
  dsimp only
  refine aH rfl (aH rfl (bQ d fun q h d=>ax (b:=q) d fun h d=>an g d (l:=y.enc) rfl rfl ?_))
  refine Im (l:=M.log) (a:=a1) (c:=p) (enc:=Ev.enc) (e:=80) (y:=y) d (by decide) (by omega) (by omega) fun h d=>aad (an t d (l:=x.enc) rfl rfl ?_)
  rw[Int.toNat_natCast] at d
  rw[show M.log.length=(M.log.set k y).length by rw[List.length_set]]
  refine Im (l:=M.log.set k y) (a:=a1) (c:=p) (enc:=Ev.enc) (e:=80) (y:=x) d (by decide) (by omega) (by rw[List.length_set];omega) fun h d=>?_
  rw[show((k:Int)+1).toNat=k+1 by omega] at d
  have K:(Mc.Cj M.log k x y).length=M.log.length:=by unfold Mc.Cj;rw[List.length_set,List.length_set]
  rw[show(M.log.set k y).length=(Mc.Cj M.log k x y).length by rw[K,List.length_set]]
  change Hs G h (B5 a1 p (Mc.Cj M.log k x y)::_) at d
  have S:A.RA G (B5 a1 p (Mc.Cj M.log k x y)) Cf pv u ov vv (.slice a1 (Mc.Cj M.log k x y).length p) ps ws os vs (Mc.Cj M.log k x y):=⟨W,U,T,X,Qi,by omega⟩
  refine an p2 d (l:=Gr Cf pv u ov vv) rfl rfl (A.Lh S (d.front (B5 a1 p (Mc.Cj M.log k x y))) (fun e=>(e E).elim) fun _ b4 d4 b5 d5 b6 d6 h d=>?_)
  rw[B] at d ⊢
  dsimp only
  refine aH rfl (aH rfl (bQ d fun C h d=>ax (b:=C) d fun h d=>bH (bS rfl (bH (bS rfl (aA (am q d rfl (aA (am C d rfl (bH (bS rfl (aA (am q d rfl (aA (am C d rfl ?_)))))))))))))))
  refine s6 s.1 (d.cI (cN 7 30 b1 d1 (f.cfg.aE.toNat,A.Z2 f)) (cN 7 30 b4 d4 (f.cfg.aE.toNat,A.Z2 f))) fun h d=>eU (aA (am q d rfl (aA (am C d rfl ?_))))
  refine bp s.2.1 (d.cI (cN 1 3 b2 d2 (f.cfg.aN.toNat,A.yh f)) (cN 1 3 b5 d5 (f.cfg.aN.toNat,A.yh f))) fun h d=>eU (aA (am q d rfl (aA (am C d rfl ?_))))
  exact bp s.2.2 (d.cI (cN 1 3 b3 d3 (f.cfg.lines*2,A.bc f)) (cN 1 3 b6 d6 (f.cfg.lines*2,A.bc f))) fun h d=>eU (dV (j _))
theorem vt {C:bP} {ps:List (List Ins)} {ws os vs:List Int} (h:oI C ps ws os vs=0):Mc.RA C (rM C ps ws os vs) (ga ps ws) 0 (MC.new ⟨C,ps,ws,os,vs⟩):=by
 obtain⟨hC,a,b,c,d,e,f,g⟩:=Ge h;have:=hC.2.1;exact⟨z7 h,_,Mc.RX.new hC (by omega)⟩
theorem J8 {pv f ov vv lv:Value} {a b:Int} {ps:List (List Ins)} {ws os vs:List Int} {l:List Do} (r:ps.length<=9223372036854775807) (hb: -9223372036854775808<=b/\b<=9223372036854775807) (hG:Gb G) (n:Ob G 1 sI) (d:A.Nv G pv f ov vv ps ws os vs) (k:Rx G lv l) (c:Hs G h L)
  (i:∀p,Q (.bool true) p):Cl Pr K 13 [.agg ⟨Gr Cf pv f ov vv⟩,lv,.agg ⟨[I a,I b]⟩] h Q:=by
 refine cW (dR (cs:=Gr Cf pv f ov vv) c fun j h c=>dR (cs:=[I a,I b]) c fun s h c=>an j c (l:=Gr Cf pv f ov vv) rfl rfl ?_)
 refine xu r d c (fun C h c=>cH (eB (eU ?_))) (fun h c=>cH (eB (cG (dV (i _)))))
 refine fj k (mC (aX (fun _=>dV (i _)) (fun B=>bW (an j c (l:=Gr Cf pv f ov vv) rfl rfl ?_))))
 refine Zg (Cf:=Cf) (by omega) hG n d c (fun e h c=>?_) fun e m h c=>?_
 .exact aH rfl (aH rfl (bC (bS e (bC (bS e (Iq (eU (dV (i _)))))))))
 refine aH rfl (aH rfl (bC (aab (dD (cG (bW ?_))))))
 obtain⟨hC,t,u,v,w,x,y,z⟩:=Ge e
 refine sb (L:=aG s 0 [I a,I b]::aG j 0 (Gr Cf pv f ov vv)::L) hC hG (by omega) k ?_ l.length 0 _ h (by omega) (vt e) c
 intro M h hA g c
 obtain⟨V,q⟩:=hA.rx
 exact ia hb ⟨by omega,by omega,by omega⟩ hG.lim n d e q.log g c i
theorem Ls {pv f ov vv lv:Value} {a:Int} {ps:List (List Ins)} {ws os vs:List Int} {l:List Do} (r:ps.length<=9223372036854775807) (hG:Gb G) (n:Ob G 1 sI) (d:A.Nv G pv f ov vv ps ws os vs) (k:Rx G lv l) (c:Hs G h L)
  (i:∀p,Q (.bool true) p):Cl Pr K 14 [.agg ⟨Gr Cf pv f ov vv⟩,lv,I a] h Q:=by
 refine cW (dR (cs:=Gr Cf pv f ov vv) c fun j h c=>an j c (l:=Gr Cf pv f ov vv) rfl rfl ?_)
 refine xu r d c (fun B h c=>cH (eB (eU ?_))) (fun h c=>cH (eB (cG (dV (i _)))))
 refine fj k (mC (aX (fun _=>dV (i _)) (fun z=>bW (an j c (l:=Gr Cf pv f ov vv) rfl rfl ?_))))
 refine Zg (Cf:=Cf) (by omega) hG n d c (fun e h c=>?_) fun e m h c=>?_
 .exact aH rfl (aH rfl (bC (bS e (bC (bS e (Iq (eU (dV (i _)))))))))
 refine aH rfl (aH rfl (bC (aab (dD (cG (bW ?_))))))
 obtain⟨hC,s,t,u,v,w,x,y⟩:=Ge e
 refine oz (L:=aG j 0 (Gr Cf pv f ov vv)::L) hC hG (by omega) k ?_ l.length 0 _ h (by omega) (vt e) c
 intro M h hA g c
 obtain⟨V,q⟩:=hA.rx
 exact dm hC ⟨by omega,by omega,by omega⟩ hG.lim n d e q.log g c i
end
end Go.Proofs.YtajjljbmfdboaaaGreatDoor
end
