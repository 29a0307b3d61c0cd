/- A part of the proof. -/
import Derived.Test.YtmhapehobfnoiaaGreatDoorS11
import Derived.Test.YtmhapehobfnoiaaGreatDoorS10
import Derived.Test.YtmhapehobfnoiaaGreatDoorS6
import Derived.Test.YtmhapehobfnoiaaGreatDoorS9
section
open Go Go.Ab
attribute [local irreducible] bG Br ld1 uF uG B4 mA uX lK P3 hQ mY qG pZ pS lH zE uE Uh Ty Oa Mr Rk Ol Md Ny Rn lN oT sF iV copyV iJ wV Tu U3 Gk kX Mb Qq Sb nL rR xM zA Cl zB Ro sM sC jS fL setLoop cH
namespace Go.Proofs.YtmhapehobfnoiaaGreatDoor
open Go Go.Ab Go.Hm Go.At Go.Mc
section
def tO (m:Mon) (done:List Int) (k:Nat):Option Value:=if(k:Int)∈done then fS m.runs k else none
theorem bc {m:Mon}:tO m []=fun _=>none:=by funext k;unfold tO;simp
theorem jc {m:Mon} {done:List Int} {k:Nat} {r:Mc.jG} (a:m.runs k=some r):Jq (tO m done) k (some (.agg ⟨r.enc⟩))=tO m (done++[(k:Int)]):=by
 funext j;unfold Jq tO;by_cases e:j=k;subst e;simp[fS,a]
 .rw[aKi e];have:((j:Int)∈done++[(k:Int)])↔(j:Int)∈done:=by simp;omega
  simp only[this]
theorem fh {m:Mon} (a:∀g r,m.runs g=some r->g<16):tO m (m.running.map fun k:Nat=>(k:Int))=fS m.runs:=by
 funext k;unfold tO;split;rfl;rename_i b;cases hr:m.runs k with
 |none=>unfold fS;rw[hr];rfl
 |some r=>exact absurd (List.mem_map.2 ⟨k,rH.2 ⟨a k r hr,by rw[hr];rfl⟩,rfl⟩) b
set_option maxRecDepth 100000
variable {G:Bg} {h:AH} {L L' M:List HP} {Q:Value->AH->Prop} {C:bN} {m:Mon} {p:Nat}
abbrev aE8 (C:bN) (m:Mon) (p p2 a q t b:Nat) (e:Nat->Value) (d l:Nat) (done:List Int):HP:=
 sp [gF Pr 73 (gI 122) 39 e d l (.ready,none),sp [aE p2 0 [pt p 0 0],aE a 0 [pt q 0 0]],fO C p m,sp [aE q 0 [pt t 0 0,I C.aD,gA b],gP t m.cE,iG b (tO m done)]]
theorem Kg (hC:C.Ok) (P:iA C m) (j:Hs G h L) [mm:Has (fO C p) L m L'] (hk:∀q N,Hs G N (fO C q m::fO C p m::L')->Q (pt q 0 0) N):Cl Pr K 73 [pt p 0 0] h Q:=by
 have O:=P.len;have α:=hC.2.1;refine cW (dF (mm.of j) fun u h j=>?_);refine am u j rfl (dD (bV ?_));obtain⟨t0,B,j⟩:=kE (j.front (fO C p m));refine bW (bE j fun A h0 w=>am u w rfl (aB (aA (am p w rfl (W6 (es:=m.cE) (by omega) w fun t h j=>?_)))));refine am u j rfl (aB (aA (am p j rfl (am u j rfl (aB (aA (am p j rfl (aE2 (b:=B) (f:=fS m.runs) j fun _=>aG0 (Ye (r:=A) (i:=14) (n:=19) (D:=[]) j rfl rfl fun b h j=>?_)))))))));refine aN (c:=[pt t 0 0,I C.aD,gA b]) rfl (Ai (r:=A) (i:=16) (n:=19) (D:=[14]) j rfl rfl fun q h j=>kQ (r:=A) (i:=17) (n:=19) (D:=[16,14]) j rfl rfl fun y h j=>ax (b:=y) j fun h j=>?_);refine cZ (am u w rfl dJ) (cZ (aB dJ) (cZ (aA dJ) (cZ (am p w rfl jA) (cZ (am u w rfl dJ) (cZ (aB dJ) (cZ (aA dJ) (cZ (am p w rfl (by simp[pY,gA])) ?_)))))));have j:=dO (j.cI (aE p 0 [pt t0 0 0,I C.aD,gA B]) (gP t0 m.cE) (iG B (fS m.runs)));refine am u j rfl (Dk (C:=C) (m:=m) j fun V T U h j=>iR j fun d h j=>?_);intro e he;refine jI j fun l h j=>nF rfl ?_;rw[<-bc (m:=m)] at j;have j:Hs G h (H.Mo 3 V T U (m.running.map fun k:Nat=>(k:Int))::aE8 C m p u y q t b e d l []::mk d ()::L'):=by
  have j:=(j.cI (aE q 0 [pt t 0 0,I C.aD,gA b]) (gP t m.cE) (iG b (tO m []))).Rp;have j:=(j.cC (aE u 0 [pt p 0 0]) (aE y 0 [pt q 0 0])).yS;have j:=(j.fX (gF Pr 73 (gI 122) 39 e d l (.ready,none)) (sp [aE u 0 [pt p 0 0],aE y 0 [pt q 0 0]]) (fO C p m) (sp [aE q 0 [pt t 0 0,I C.aD,gA b],gP t m.cE,iG b (tO m [])])).El;exact j.to
 refine(H.Fa (e:=3) (p:=V) (a:=T) (c:=U) (xs:=m.running.map fun k:Nat=>(k:Int)) (by have:=List.length_filter_le (fun g=>(m.runs g).isSome) (List.range 16);simp[Mon.running] at this ⊢;omega)).fold
  (X:=fun done=>aE8 C m p u y q t b e d l done) (Z:=fun _ _=>tX False) j ?_ ?_ ?_
 .intro done x h M R j;have j:=j.Vg;obtain⟨k,z,rfl⟩:∃k∈m.running,(k:Int)=x:=by
   obtain⟨ys,J⟩:=R;have:x∈m.running.map fun k:Nat=>(k:Int):=by rw[<-J];simp
   obtain⟨k,W,Y⟩:=List.mem_map.1 this;exact⟨k,W,Y⟩
  obtain⟨r,S⟩:=Option.isSome_iff_exists.1 (rH.1 z).2;have F:m.run (k:Int)=some r:=by unfold Mon.run;rw[aac];exact S
  have j:=(j.front (sp [aE u 0 [pt p 0 0],aE y 0 [pt q 0 0]])).zH;have j:=(j.front (sp [aE q 0 [pt t 0 0,I C.aD,gA b],gP t m.cE,iG b (tO m done)])).B5;refine rW (oW j) he (fU j fun h j=>bE j fun A h j=>?_);obtain⟨t2,E,j⟩:=kE (j.front (fO C p m));refine am y j rfl (aB (aA (am q j rfl (am u j rfl (aB (aA (am p j rfl (N0 (b:=E) (m:=m) j ?_))))))));rw[F];refine P1 (b:=b) (f:=tO m done) j (rH.1 z).1 fun h j=>gM j fun h j=> .inl ⟨rfl,?_⟩;rw[show(some r).getD Bw=r from rfl,jc S] at j;have j:=dO (j.cI (aE p 0 [pt t2 0 0,I C.aD,gA E]) (gP t2 m.cE) (iG E (fS m.runs)));have j:=(j.cI (aE q 0 [pt t 0 0,I C.aD,gA b]) (gP t m.cE) (iG b (tO m (done++[(k:Int)])))).Rp;have j:=(j.cC (aE u 0 [pt p 0 0]) (aE y 0 [pt q 0 0])).yS;have j:=(j.fX (gF Pr 73 (gI 122) 39 e d l (.ready,none)) (sp [aE u 0 [pt p 0 0],aE y 0 [pt q 0 0]]) (fO C p m) (sp [aE q 0 [pt t 0 0,I C.aD,gA b],gP t m.cE,iG b (tO m (done++[(k:Int)]))])).El;exact j.to
 intro v h j;have j:=(j.front (aE8 C m p u y q t b e d l (m.running.map fun k:Nat=>(k:Int)))).Vg;have j:=(j.front (sp [aE u 0 [pt p 0 0],aE y 0 [pt q 0 0]])).zH;have j:=(j.front (sp [aE q 0 [pt t 0 0,I C.aD,gA b],gP t m.cE,iG b (tO m (m.running.map fun k:Nat=>(k:Int)))])).B5;rw[fh (P.aGj hC)] at j;have j:=dO (j.cI (aE q 0 [pt t 0 0,I C.aD,gA b]) (gP t m.cE) (iG b (fS m.runs)));exact jL j fun h j=>jK (am y j rfl (kG j fun h j=>iU (hk _ _ j.to)))
 .intro done x v h R j;obtain⟨hd,_⟩:=(j.front (tX False)).Vd;exact hd.elim
end
end Go.Proofs.YtmhapehobfnoiaaGreatDoor
end
namespace Go.Proofs.YtmhapehobfnoiaaGreatDoor
open Go Go.Ab Go.Hm Go.At Go.Mc
section
theorem lx {t:TypeId} {v:Value} {k:Value->Prop} (a:k (.bool false)):bG (Ol true .eql (.iface t v) .nilIface) k:=⟨_,rfl,a⟩
set_option maxRecDepth 100000
attribute [local irreducible] bG Br ld1 uF uG B4 mA uX lK P3 hQ mY qG pZ pS lH zE uE Uh Ty Oa Mr Rk Ol Md Ny Rn lN oT sF iV copyV iJ wV Tu U3 Gk kX Mb Qq Sb nL rR xM zA Cl zB Ro sM sC jS fL setLoop cH
variable {G:Bg} {h:AH} {L L' M:List HP} {Q:Value->AH->Prop} {C:bN} {m:Mon} {p:Nat}
theorem Pw {ov:Value} {os:List Int} {k:Value->Prop} (b:A.Hh G ov os) (a:k (I os.length)):bG (lH ov) k:=A.uM b (by rw[A.tJ];exact a)
theorem jY {α:Type} {l:List α} {i:Nat} (h:i<l.length):∃x,l[i]?=some x/\l.drop i=x::l.drop (i+1):=⟨l[i],by simp,List.drop_eq_getElem_cons h⟩
def tM (os:List Int):List gZ:=os.map fun o=>⟨o,false⟩
theorem Pv {ov:Value} {os:List Int} (g:A.Hh G ov os) (u:os.length<=16) (j:∀o∈os,0<=o/\o<=4) {t0:Value} (k:∀b,Hs G b L->Dd 41 4 [] Q [t0,ov] b):
  ∀(f i:Nat) (h:AH),i+f=os.length->Hs G h L->Dd 41 2 [] Q [t0,ov,ov,(I os.length),(I i)] h:=by
 intro f
 induction f with
 |zero=>intro i h e a;exact bW (aS (aaa (k _ a)))
 |succ f r=>
  intro i h e a
  obtain⟨x,d,t⟩:=jY (l:=os) (i:=i) (by omega)
  have q:=j x (List.mem_of_getElem? d)
  have a:=A.sI g a
  exact bW (aS (aae (bW (yO a (x:=[I x]) (by simp[A.Dz,d]) rfl (aS (aaa (mR (aaa (bW (aad (r (i+1) h (by omega) a.tail)))))))))))
theorem di {os:List Int} {i:Nat} {x:Int} (a:os[i]?=some x):(tM (os.take i)++List.replicate (os.length - i) iO).set i ⟨x,false⟩=tM (os.take (i+1))++List.replicate (os.length - (i+1)) iO:=by
 obtain⟨e,d⟩:=List.getElem?_eq_some_iff.1 a;have b:(tM (os.take i)).length=i:=by simp[tM];omega
 rw[List.set_append_right _ _ (by omega),b,Nat.sub_self,show os.length - i=(os.length - (i+1))+1 by omega,List.replicate_succ,List.set_cons_zero,List.take_add_one,a];simp[tM]
theorem kq {ov:Value} {os:List Int} (hC:C.Ok) (g:A.Hh G ov os) (J:os.length=C.aQ.toNat) (w:∀o∈os,0<=o/\o<=4) (a:Hs G h L) (D:∀q u,Hs G u (fO C q ⟨tM os,fun _=>none⟩::L)->Q (.tuple ⟨[pt q 0 0,I 0]⟩) u):Cl Pr K 41 [I C.aD,ov] h Q:=by
 have F:=hC.1;have z:=hC.2.1;refine cW (aS (aaa (mR (aaa (Pw g (aS (aaa (Pw g (mR (aaa (bW (Pw g ?_))))))))))));refine Pv g (by omega) w ?_ os.length 0 h (by omega) a;intro h a;refine bW (Pw g (ig (by omega) a fun t h a=>aI rfl (aI rfl (bA (aaa (bW (s9 a fun b h a=>?_)))))));refine aN (c:=[pt t 0 0,I C.aD,gA b]) rfl (dF a fun q h a=>Pw g ?_);have loop:∀(f i:Nat) (h:AH),i+f=os.length->Hs G h (gP t (tM (os.take i)++List.replicate (os.length - i) iO)::aE q 0 [pt t 0 0,I C.aD,gA b]::iG b (fun _=>none)::L)->Dd 41 7 [] Q [(pt q 0 0),ov,(I os.length),(I i)] h:=by
  intro f;induction f with
  |zero=>
   intro i h B a;refine bW (aS (aaa (D _ _ ?_)));have j:i=os.length:=by omega
   subst j;rw[List.take_length,Nat.sub_self,List.replicate_zero,List.append_nil] at a;have a:Hs G h (aE q 0 [pt t 0 0,I C.aD,gA b]::gP t (tM os)::iG b (fun _=>none)::L):=a.to;exact dO (m:=⟨tM os,fun _=>none⟩) a
  |succ f E=>
   intro i h B a;obtain⟨x,k,H⟩:=jY (l:=os) (i:=i) (by omega);have r:=w x (List.mem_of_getElem? k);have a:=A.sI g a;refine bW (aS (aae (bW (yO a (x:=[I x]) (by simp[A.Dz,k]) rfl (aB (aA (am q a rfl (aN (c:=(⟨x,false⟩:gZ).enc) rfl (Gf (x:=⟨x,false⟩) a.tail fun h a=>?_)))))))));have v:(tM (os.take i)++List.replicate (os.length - i) iO).length=os.length:=by simp[tM];omega
   have d:(0<=(i:Int)/\(i:Int)<(tM (os.take i)++List.replicate (os.length - i) iO).length)/\(0<=(⟨x,false⟩:gZ).owner/\(⟨x,false⟩:gZ).owner<=4):=⟨by omega,r⟩;rw[aKj d] at a;rw[aKj d];rw[Int.toNat_natCast,di k] at a;exact bA (aaa (bW (aad (E (i+1) h (by omega) a))))
 have e:(os.length:Int).toNat=os.length:=Int.toNat_natCast _;refine loop os.length 0 h (by omega) ?_;rw[e] at a;have y:List.replicate os.length iO=tM (os.take 0)++List.replicate (os.length - 0) iO:=rfl;rw[y] at a;exact a.to
theorem Hb (hC:C.Ok) {x:Int} (i:Ob G 0 fJ) (a:Hs G h L)
  (d:∀e,Hs G e L->Q (if C.has x then .tuple ⟨[I (x/2),I 0]⟩ else .tuple ⟨[I 0,I 10]⟩) e):Cl Pr K 206 [.agg ⟨C.enc⟩,I x] h Q:=by
 have j:=(bN.eE hC).2.2
 have b:C.has x↔0<=x/\x<C.lines:=Iff.rfl
 refine cW (dF a fun p h a=>aS (aZ (fun f=>?_) (fun f=>?_)))
 .rw[aKi (by rw[b];omega)] at d;exact d _ a.tail
 refine aR a (by decide) (l:=C.enc) rfl rfl (pK hC i a fun h a=>dR (aZ (fun g=>?_) (fun g=>?_)))
 .rw[aKi (by rw[b];omega)] at d;exact d _ a.tail
 .rw[aKj (by rw[b];omega)] at d;obtain⟨n,rfl⟩:=Int.eq_ofNat_of_zero_le (show 0<=x by omega);exact Hf (by omega) (by omega) (by omega) (d _ a.tail)
def I1 (C:bN) (m:Mon) (world line:Int):Int×Bool:=if C.has line then((m.kJ (line/2)).owner,!(m.kJ (line/2)).locked&&Ch world (m.kJ (line/2)).owner) else(0,false)
theorem Si {w x:Int} (hC:C.Ok) (y:iA C m) (v:Ob G 0 fJ) (a:Hs G h L) [z:Has (fO C p) L m L'] (d:∀i,Hs G i (fO C p m::L')->Q (.tuple ⟨[I (I1 C m w x).1,.bool (I1 C m w x).2]⟩) i):Cl Pr K 348 [.agg ⟨C.enc++[pt p 0 0]⟩,I w,I x] h Q:=by
 have j:=y.len;have k:=hC.2.1;have A:=bN.eE hC;unfold I1 at d;refine cW (dF (cs:=C.enc++[pt p 0 0]) (z.of a) fun q h a=>aA (kS (b:=q) (o:=0) a (by decide) (l:=C.enc) rfl rfl (Hb hC v a fun h a=>?_)));by_cases f:C.has x;rotate_left;rw[aKi f];rw[aKi f] at d;exact aI rfl (aI rfl (bA (aae (d _ a.to))));rw[aKj f];rw[aKj f] at d;have g:=f;unfold bN.has at g;have r:m.has (x/2):=by unfold Mon.has;omega
 obtain⟨t,b,a⟩:=kE (a.front (fO C p m));refine aI rfl (aI rfl (bA (aaa (bW (aA (am q a rfl (aB (aA (am p a rfl (Bm (m:=m) a fun h a=>?_))))))))));rw[aKj r];refine aI rfl (aI rfl (bM a fun u h a=>ax (b:=u) a fun h a=>bA (aaa (bE a fun B h a=>aA (am u a rfl (aA (am u a rfl (bX (eN ?_)))))))));have e:=dO (a.cI (aE p 0 [pt t 0 0,I C.aD,gA b]) (gP t m.cE) (iG b (fS m.runs)));cases hk2:(m.kJ (x/2)).locked with
 |true=>
  rw[hk2] at d;exact eZ (cZ (aA dJ) (cZ (am u a rfl jA) (d _ e.to)))
 |false=>
  rw[hk2] at d;exact bV (aA (am u a rfl (ag (cZ (aA dJ) (cZ (am u a rfl jA) (d _ e.to))))))
theorem Q7 (hC:C.Ok) (f:iA C m) (e:Ob G 0 fJ):H.Vp G (fO C p m) (.iface 332 (.agg ⟨C.enc++[pt p 0 0]⟩)) (I1 C m) where
 ne:=fun k a=>lx a
 may:=by
  intro h L M w l Q d b a;refine aCd (g:=348) rfl (Si (L':=M) (m:=m) hC f e (b.perm d) fun h b=>⟨rfl,a _ (b.perm d.symm)⟩)
end
end Go.Proofs.YtmhapehobfnoiaaGreatDoor
namespace Go.Proofs.YtmhapehobfnoiaaGreatDoor.C
open Go Go.Ab Go.Hm Go.Ct
section
theorem pG {g n a:Nat} {i:Int} {k:Value->Prop} (d:0<=i) (e:i<n) (f:k (pt g (i.toNat*a) 0)):bG (oT n a (.pointer (some ⟨g,0,none⟩)) (I i)) k:=
 jJ (b:=g) (o:=0) (j:=0) d e (by simpa [pt] using f)
theorem qB {s:Int} (h:0<=s/\s<5):kH[s.toNat*8+1]?=some (.bool (O3 s))/\kH[s.toNat*8+2]?=some (.bool (vA s))/\kH[s.toNat*8+3]?=some (.bool (jH s))/\kH[s.toNat*8+4]?=some (.bool (C6 s))
  /\kH[s.toNat*8+5]?=some (I (if vA s then 4 else 0))/\kH[s.toNat*8+6]?=some (I (Ie s))/\kH[s.toNat*8+7]?=some (I 0):=by
 have:s=0\/s=1\/s=2\/s=3\/s=4:=by omega
 rcases this with rfl|rfl|rfl|rfl|rfl<;>exact⟨rfl,rfl,rfl,rfl,rfl,rfl,rfl⟩
set_option maxRecDepth 100000
attribute [local irreducible] bG Br ld1 uF uG B4 mA uX lK P3 hQ mY qG pZ pS lH zE uE Uh Ty Oa Mr Rk Ol Md Ny Rn lN oT sF iV copyV iJ wV Tu U3 Gk kX Mb Qq Sb nL rR xM zA Cl zB Ro sM sC jS fL setLoop cH
variable {G:Bg} {h:AH} {L L':List HP}
theorem zT {x:Int} {Q:Value->AH->Prop} (a:Q (.bool (x5 x)) h):Cl Pr K 312 [I x] h Q:=by
 refine cW ?_;refine dR (aZ (fun b=>aS ?_) (fun b=>?_));show Q _ _;rw[show decide (x<5)=x5 x from decide_eq_decide.2 (by omega)];exact a;show Q _ _;rw[show false=x5 x from(decide_eq_false (by omega)).symm];exact a
theorem Qf {x:Int} (h:x5 x=true):0<=x/\x<5:=of_decide_eq_true h
theorem Po {x:Int} (h:x5 x=false):O3 x=false/\vA x=false/\jH x=false/\C6 x=false:=by
 have:=of_decide_eq_false h;refine⟨decide_eq_false ?_,decide_eq_false ?_,decide_eq_false ?_,decide_eq_false ?_⟩<;>omega
theorem zl {x:Int} {Q:Value->AH->Prop} (e:Ob G 3 kH) (f:Hs G h L) (d:Q (.bool (O3 x)) h):Cl Pr K 308 [I x] h Q:=by
 refine cW (zT (dG (fun a=>?_) (fun a=>?_)));have b:=Qf a;exact pG b.1 b.2 (aA (Af f e (o:=x.toNat*8) (j:=1) (qB b).1 d));rw[(Po a).1] at d;exact d
theorem Ut {x:Int} {Q:Value->AH->Prop} (e:Ob G 3 kH) (f:Hs G h L) (d:Q (.bool (vA x)) h):Cl Pr K 307 [I x] h Q:=by
 refine cW (zT (dG (fun a=>?_) (fun a=>?_)));have b:=Qf a;exact pG b.1 b.2 (aA (Af f e (o:=x.toNat*8) (j:=2) (qB b).2.1 d));rw[(Po a).2.1] at d;exact d
theorem Ks {x:Int} {Q:Value->AH->Prop} (e:Ob G 3 kH) (f:Hs G h L) (d:Q (.bool (jH x)) h):Cl Pr K 311 [I x] h Q:=by
 refine cW (zT (dG (fun a=>?_) (fun a=>?_)));have b:=Qf a;exact pG b.1 b.2 (aA (Af f e (o:=x.toNat*8) (j:=3) (qB b).2.2.1 d));rw[(Po a).2.2.1] at d;exact d
theorem Se {x:Int} {Q:Value->AH->Prop} (e:Ob G 3 kH) (f:Hs G h L) (d:Q (.bool (C6 x)) h):Cl Pr K 324 [I x] h Q:=by
 refine cW (zT (dG (fun a=>?_) (fun a=>?_)));have b:=Qf a;exact pG b.1 b.2 (aA (Af f e (o:=x.toNat*8) (j:=4) (qB b).2.2.2.1 d));rw[(Po a).2.2.2] at d;exact d
theorem rn {x:Int} {Q:Value->AH->Prop} (d:Ob G 3 kH) (e:Hs G h L) (b:vA x=true) (f:Q (.tuple ⟨[I 4,I 0]⟩) h):Cl Pr K 272 [I x] h Q:=by
 have a:0<=x/\x<5:=by have:=of_decide_eq_true b;omega
 refine cW (zT ?_);rw[show x5 x=true from decide_eq_true a];refine bX (bV (bW (Ut d e ?_)));rw[b];have:=(qB a).2.2.2.2.1;rw[aKj b] at this;exact bX (bV (pG a.1 a.2 (aA (Af e d (o:=x.toNat*8) (j:=5) this f))))
theorem Oh {x to:Int} {Q:Value->AH->Prop} (b:Ob G 3 kH) (d:Hs G h L) (a:0<=x/\x<5) (i:to=0\/to=1) (f:Q (.tuple ⟨[I (gC x to),.bool (C6 x),.bool (jH x),I 0]⟩) h):Cl Pr K 328 [I x,I to] h Q:=by
 refine cW (zT ?_);rw[show x5 x=true from decide_eq_true a];refine bX (bV ?_);have g:=(qB a).2.2.2.2.2.1;have e:=(qB a).2.2.2.2.2.2;rcases i with rfl|rfl;exact bA (aae (bA (aaa (bW (pG a.1 a.2 (aA (Af d b (o:=x.toNat*8) (j:=7) e (bJ (aaa (Se b d (Ks b d f)))))))))));exact bA (aaa (pG a.1 a.2 (aA (Af d b (o:=x.toNat*8) (j:=7) e (bJ (bS rfl (bW (pG a.1 a.2 (aA (Af d b (o:=x.toNat*8) (j:=6) g (Se b d (Ks b d f))))))))))))
theorem Of {x:pW} {w:Bool} {Q:Value->AH->Prop} (e:Ob G 3 kH) (a:Hs G h L) (d:∀b,Hs G b L->Q (.bool (mM x.st w)) b):Cl Pr K 268 [.agg ⟨x.enc⟩,.bool w] h Q:=by
 refine cW (dF a ?_);intro p h a;cases w;exact bV (aA (aC a rfl (zl e a (d _ a.tail))));exact eZ (aA (aC a rfl (Ut e a (d _ a.tail))))
end
end Go.Proofs.YtmhapehobfnoiaaGreatDoor.C
section
open Go Go.Ab
attribute [local irreducible] bG Br ld1 uF uG B4 mA uX lK P3 hQ mY qG pZ pS lH zE uE Uh Ty Oa Mr Rk Ol Md Ny Rn lN oT sF iV copyV iJ wV Tu U3 Gk kX Mb Qq Sb nL rR xM zA Cl zB Ro sM sC jS fL setLoop cH
namespace Go.Proofs.YtmhapehobfnoiaaGreatDoor.C
open Go Go.Ab Go.Hm Go.Ct
section
set_option maxRecDepth 100000
variable {G:Bg} {h:AH} {L L' M:List HP}
def cQ (b o:Nat) (l:List Th):HP:=sB fun x:Option Addr×Nat=>sp [aE b o [.slice x.1 l.length x.2],dH 5 256 x.1 x.2 (l.length,cS l)]
theorem pI {b o:Nat} {l:List Th} (d:Hs G h (cQ b o l::L)):∃a c,Hs G h (aE b o [.slice a l.length c]::dH 5 256 a c (l.length,cS l)::L):=by
 obtain⟨⟨a,c⟩,d⟩:=d.tW;exact⟨a,c,d.unpack⟩
theorem iZ (b o:Nat) (l:List Th) {a:Option Addr} {c n:Nat} {cs:List Value} {e L2:List HP} (g:Hs G h L) [m:Has (aE b o) L [.slice a n c] e] [m2:Has (dH 5 256 a c) e (n,cs) L2] (f:n=l.length) (d:cs=cS l):Hs G h (cQ b o l::L2):=by
 subst f;subst d;exact Hs.qU (A:=fun x:Option Addr×Nat=>sp [aE b o [.slice x.1 l.length x.2],dH 5 256 x.1 x.2 (l.length,cS l)]) (a,c) (Hs.pack (A:=[_,_]) (g.perm (m.perm.trans (m2.perm.cons _))))
structure TgA where
 b:Nat
 o:Nat
 cap:Nat
def qI (ways n b o cap:Nat):List Value:=[I ways,.slice (some ⟨b,o,none⟩) n cap]
def gJ (G:Bg) (t ways n:Nat) (S:Nat->List Th):HP:=sB fun x:TgA=>
 sp [aE t 0 (qI ways n x.b x.o x.cap),hole G 1 253 (some ⟨x.b,x.o,none⟩) x.cap n x.b x.o,dE n fun i=>cQ x.b (x.o+i*1) (S i)]
theorem D8 {t ways n:Nat} {S:Nat->List Th} (d:Hs G h (gJ G t ways n S::L)):∃b o a,Hs G h (aE t 0 (qI ways n b o a)::hole G 1 253 (some ⟨b,o,none⟩) a n b o::dE n (fun i=>cQ b (o+i*1) (S i))::L):=by
 obtain⟨⟨b,o,a⟩,d⟩:=d.tW;exact⟨b,o,a,d.unpack⟩
theorem sR {t ways n:Nat} {S:Nat->List Th} {b o cap:Nat} (a:Hs G h (aE t 0 (qI ways n b o cap)::hole G 1 253 (some ⟨b,o,none⟩) cap n b o::dE n (fun i=>cQ b (o+i*1) (S i))::L)):Hs G h (gJ G t ways n S::L):=
 Hs.qU (A:=fun x:TgA=>sp [aE t 0 (qI ways n x.b x.o x.cap),hole G 1 253 (some ⟨x.b,x.o,none⟩) x.cap n x.b x.o,dE n fun i=>cQ x.b (x.o+i*1) (S i)]) ⟨b,o,cap⟩ (Hs.pack (A:=[_,_,_]) a)
def Lf (b o n:Nat) (S:Nat->List Th) (l:Nat):HP:=sp (((List.range n).erase l).map fun i=>cQ b (o+i*1) (S i))
theorem H3 {t ways n l:Nat} {S:Nat->List Th} (e:l<n) (d:Hs G h (gJ G t ways n S::L)):∃b o a,Hs G h (cQ b (o+l*1) (S l)::aE t 0 (qI ways n b o a)::hole G 1 253 (some ⟨b,o,none⟩) a n b o::Lf b o n S l::L):=by
 obtain⟨b,o,a,d⟩:=D8 d;have d:=(d.front (dE n fun i=>cQ b (o+i*1) (S i))).kO l e;exact⟨b,o,a,(show Hs G h (cQ b (o+l*1) (S l)::Lf b o n S l::_) from d).to⟩
theorem sZ {f L2 g d:List HP} (t ways n:Nat) (S:Nat->List Th) (l:Nat) (x:List Th) (b o cap:Nat) (q:l<n) (a:Hs G h L) [r:dT (cQ b (o+l*1) x) L f] [u:dT (aE t 0 (qI ways n b o cap)) f L2]
  [v:dT (hole G 1 253 (some ⟨b,o,none⟩) cap n b o) L2 g] [w:dT (Lf b o n S l) g d]:Hs G h (gJ G t ways n (aX S l x)::d):=by
 have a:Hs G h (cQ b (o+l*1) x::Lf b o n S l::aE t 0 (qI ways n b o cap)::hole G 1 253 (some ⟨b,o,none⟩) cap n b o::d):=
  (a.perm (r.perm.trans ((u.perm.trans ((v.perm.trans (w.perm.cons _)).cons _)).cons _))).to
 have k:(fun i=>cQ b (o+i*1) (aX S l x i)) l=cQ b (o+l*1) x:=by simp only[dQ]
 rw[<-k] at a
 unfold Lf at a
 have a:=a.oB (n:=n) (i:=l) (fun i=>cQ b (o+i*1) (S i)) (fun i=>cQ b (o+i*1) (aX S l x i)) q (fun j _ e=>by simp only[cX e])
 exact sR (b:=b) (o:=o) (cap:=cap) a.to
theorem aAh {α:Type} {f:Nat->α} {i:Nat}:aX f i (f i)=f:=by
 funext j;unfold aX;split;rename_i e;rw[e];rfl
theorem j5 {no:Int} {b o a2 o2 cp p:Nat} {l:List Th} {Q:Value->AH->Prop} (hb:l.length<=4):∀(r i:Nat) (h:AH) (L:List HP),i+r=l.length->ix no (l.take i)=none->Hs G h (aE p 0 [I no]::dH 5 256 (some ⟨a2,o2,none⟩) cp (l.length,cS l)::L)->
  (∀D,Hs G D (aE p 0 [I no]::dH 5 256 (some ⟨a2,o2,none⟩) cp (l.length,cS l)::L)->Q (.tuple ⟨[pt b o 0,I (la no l),I 0]⟩) D)->
  Dd 306 3 [] Q [(pt b o 0),(I (-1)),(.func (.func 327) #[] #[pt p 0 0]),(.slice (some ⟨a2,o2,none⟩) l.length cp),(I l.length),(I i)] h:=by
 have B:∀(i:Nat) (l:List Th) (t:Th),ix no (l.take i)=none->l[i]?=some t->ix no (l.take (i+1))=if t.1=no then some i else none:=by
  intro i;induction i with
  |zero=>
   intro l t _ u;cases l with
   |nil=>cases u
   |cons a l=>cases u;simp[ix]
  |succ i y=>
   intro l t w u;cases l with
   |nil=>cases u
   |cons a l=>
    simp only[List.take_succ_cons,ix] at w ⊢;by_cases e:a.1=no;rw[aKj e] at w;cases w;rw[aKi e] at w ⊢;rw[y l t (by simpa using w) (by simpa using u)];split<;>rfl
 have z:∀(l:List Th) (i j:Nat),ix no (l.take i)=some j->ix no l=some j:=by
  intro l;induction l with
  |nil=>intro i j h;simp[ix] at h
  |cons a l y=>
   intro i j h;cases i with
   |zero=>simp[ix] at h
   |succ i=>
    simp only[List.take_succ_cons,ix] at h ⊢;by_cases e:a.1=no;rw[aKj e] at h ⊢;exact h;rw[aKi e] at h ⊢;cases hx:ix no (l.take i) with
    |none=>rw[hx] at h;cases h
    |some k=>rw[hx] at h;rw[y i k hx];exact h
 intro r
 induction r with
 |zero=>
  intro i h L F A d v
  rw[List.take_of_length_le (by omega)] at A
  simp only[la,A] at v
  exact bW (aS (aaa (v _ d)))
 |succ r y=>
  intro i h L F A d v
  have x:i<l.length:=by omega
  obtain⟨t,u⟩:∃t,l[i]?=some t:=⟨_,List.getElem?_eq_getElem x⟩
  refine bW (aS (aae (bW (dN x ?_))))
  obtain⟨H,J,E,g⟩:=(d.front (dH 5 256 (some ⟨a2,o2,none⟩) cp (l.length,cS l))).fV (by omega)
  cases E
  refine Kq g (by decide) (l:=xA t) (by rw[Nat.add_zero];exact S5 u) rfl ?_
  have g:=g.mQ (jT l) (qQ l)
  refine bM g ?_
  intro q h d
  refine ax d ?_
  intro h d
  refine aR d (by decide) (l:=xA t) rfl rfl ?_
  refine rC (by kernel_rfl) (cW ?_)
  refine dF d ?_
  intro K h d
  have f:=B i l t A u
  refine aA (aC d rfl (am p d rfl (bJ (aZ (fun e=>?_) (fun e=>?_)))))
  .rw[aKj e] at f;have:=z _ _ _ f;simp only[la,this] at v;exact bW (v _ d.to)
  .rw[aKi e] at f;exact bW (aad (y (i+1) h L (by omega) f d.to v))
theorem S9 {t:Nat} {no:Int} {Q:Value->AH->Prop} (d:no<0) (a:Hs G h L) (e:∀b,Hs G b L->Q (.tuple ⟨[.pointer none,I 0,I 10]⟩) b):Cl Pr K 306 [pt t 0 0,I no] h Q:=by
 refine cW (dF a ?_);intro p h a;exact dD (bV (bW (aC a rfl (aS (bS d (e _ a.tail))))))
theorem kY {n:Nat} {no:Int} (a:0<n):setOf n no<n:=by
 unfold setOf;have:=Int.emod_lt_of_pos no (show(0:Int)<n by omega);have:=Int.emod_nonneg no (show(n:Int)≠0 by omega);omega
theorem sO {t ways n b o cap:Nat} {no:Int} {l:List Th} {Q:Value->AH->Prop} (z:0<n) (x:0<=no) (hb:l.length<=4) (e:Hs G h L) [m:Has (aE t 0) L (qI ways n b o cap) L'] [m2:Has (cQ b (o+setOf n no*1)) L' l M]
  (u:∀i,Hs G i (aE t 0 (qI ways n b o cap)::cQ b (o+setOf n no*1) l::M)->Q (.tuple ⟨[pt b (o+setOf n no*1) 0,I (la no l),I 0]⟩) i):Cl Pr K 306 [pt t 0 0,I no] h Q:=by
 have e:Hs G h (aE t 0 (qI ways n b o cap)::cQ b (o+setOf n no*1) l::M):=e.perm (m.perm.trans (m2.perm.cons _))
 obtain⟨a,c,e⟩:=pI e.lU
 refine cW (dF e ?_)
 intro p h e
 refine dD (bV (bW (aC e rfl (aS (aaa (bW ?_))))))
 refine bE e ?_
 intro r h e
 have g:Hs G h (aE t 0 (qI ways n b o cap)::_):=e.front (aE t 0 (qI ways n b o cap))
 have w:no % (n:Int)=((setOf n no:Nat):Int):=by
  unfold setOf;have:=Int.emod_nonneg no (show(n:Int)≠0 by omega);omega
 refine aB (aA (am t g rfl (am p g rfl (aB (aA (am t g rfl (bP (Sc x (by omega) ?_))))))))
 rw[w]
 refine dN (kY z) (aB ?_)
 have d:Hs G h (aE b (o+setOf n no*1) [.slice a l.length c]::_):=g.front (aE b (o+setOf n no*1) [.slice a l.length c])
 refine aC d rfl (bP ?_)
 by_cases j:l.length=0
 .have k:l=[]:=List.eq_nil_of_length_eq_zero j;subst k;refine bW (aS (aJ (by simp) (u _ ?_)));exact(iZ b (o+setOf n no*1) [] (a:=a) (c:=c) d rfl rfl).to
 .have f:=d.front (dH 5 256 a c (l.length,cS l));obtain⟨q,v,y,_⟩:=f.oZ (by omega);subst y;refine j5 (no:=no) (p:=p) hb l.length 0 h (aE t 0 (qI ways n b o cap)::aE b (o+setOf n no*1) [.slice (some ⟨q,v,none⟩) l.length c]::M) (by omega) rfl d.to ?_;intro i e;refine u _ ?_;exact(iZ b (o+setOf n no*1) l (a:=some ⟨q,v,none⟩) (c:=c) e rfl rfl).to
end
section
theorem zK {n:Nat} {S:Nat->List Th} {no:Int}:aX S (setOf n no) (S (setOf n no))=S:=aAh
theorem aEs {l:List Th} (h:0<l.length):(cS l)[0*5+(0+0)]?=some (I (l[0]).1):=by
 cases l with
 |nil=>simp at h
 |cons y l=>rfl
theorem Yx {no:Int} {l:List Th} {i:Nat} {x:pW} (h:l[i]?=some (no,x)):((cS l).drop (i*5+1)).take 4=x.enc:=by
 have:=S5 h;rw[<-List.drop_drop];have a:(((cS l).drop (i*5)).take 5).drop 1=x.enc:=by rw[this];rfl
 rw[List.drop_take] at a;exact a
set_option maxRecDepth 100000
variable {G:Bg} {h:AH} {L L' M:List HP}
theorem E8 {t ways n:Nat} {no:Int} {S:Nat->List Th} {Q:Value->AH->Prop} (j:0<n) (hb:∀i,(S i).length<=4) (d:Hs G h L) [m:Has (gJ G t ways n) L S L']
  (g:∀r,Hs G r (gJ G t ways n S::L')->Q (.tuple ⟨[.agg ⟨(bB n S no).1.enc⟩,I (bB n S no).2]⟩) r):Cl Pr K 267 [pt t 0 0,I no] h Q:=by
 have d:=m.of d
 refine cW (bM d ?_)
 intro p h d
 unfold bB at g
 by_cases k:no<0
 .rw[aKj k] at g;refine S9 k d fun h d=>aI rfl (aI rfl (aI rfl (bA (aae (aR d (by decide) (l:=pW.zero.enc) rfl rfl ?_)))));refine ax d ?_;intro h d;exact aR d (by decide) (l:=pW.zero.enc) rfl rfl (g _ d.tail)
 .rw[aKi k] at g;obtain⟨b,o,f,d⟩:=H3 (kY (no:=no) j) (d.front (gJ G t ways n S));refine sO (t:=t) (ways:=ways) (n:=n) (b:=b) (o:=o) (cap:=f) (l:=S (setOf n no)) j (by omega) (hb _) d fun h d=>aI rfl (aI rfl (aI rfl (bA (aaa ?_))));refine bW ?_;cases hx:ix no (S (setOf n no)) with
  |none=>
   rw[(Ba hx).1] at g
   simp only[la,hx]
   refine aS (aae (an p d (l:=pW.zero.enc) rfl rfl ?_))
   refine ax (b:=p) (o:=0) d ?_
   intro h d
   refine aR d (by decide) (l:=pW.zero.enc) rfl rfl (g _ ?_)
   have:=sZ t ways n S (setOf n no) (S (setOf n no)) b o f (kY j) d
   rw[zK] at this
   exact this.to
  |some i=>
   obtain⟨x,v,w,A,y⟩:=yL hx
   rw[w] at g
   simp only[la,hx]
   obtain⟨a,c,d⟩:=pI (d.front (cQ b (o+setOf n no*1) (S (setOf n no))))
   obtain⟨q,u,z,e⟩:=(d.front (dH 5 256 a c ((S (setOf n no)).length,cS (S (setOf n no))))).fV (by omega)
   subst z
   refine aS (aaa (aB (aC (b:=b) (o:=o+setOf n no*1) e rfl (dN y (aA (Kq (b:=q) (o:=u) e (by decide) (l:=x.enc) (by rw[Nat.zero_add];exact Yx v) rfl ?_))))))
   have e:=e.mQ (jT _) (qQ _)
   refine ax (b:=p) (o:=0) e ?_
   intro h d
   refine aR d (by decide) (l:=x.enc) rfl rfl (g _ ?_)
   have d:=iZ b (o+setOf n no*1) (S (setOf n no)) (a:=some ⟨q,u,none⟩) (c:=c) d rfl rfl
   have:=sZ t ways n S (setOf n no) (S (setOf n no)) b o f (kY j) d
   rw[zK] at this
   exact this.to
theorem fi {t ways n:Nat} {no:Int} {S:Nat->List Th} {Q:Value->AH->Prop} (J:0<ways) (q:0<n) (D:0<=no) (hb:∀i,(S i).length<=4) (d:Hs G h L) [m:Has (gJ G t ways n) L S L']
  (g:∀w,Hs G w (gJ G t ways n S::L')->Q (match xH n ways S no with|some v=> .tuple ⟨[I v.1,.bool true,I 0]⟩|none=> .tuple ⟨[I 0,.bool false,I 0]⟩) w):Cl Pr K 309 [pt t 0 0,I no] h Q:=by
 have d:=m.of d
 unfold xH at g
 refine cW ?_
 obtain⟨b,o,e,d⟩:=H3 (kY (no:=no) q) (d.front (gJ G t ways n S))
 refine sO (t:=t) (ways:=ways) (n:=n) (b:=b) (o:=o) (cap:=e) (l:=S (setOf n no)) q (by omega) (hb _) d fun h d=>aI rfl (aI rfl (aI rfl (bA (aaa ?_))))
 refine bW (bE d ?_)
 intro r h d
 have back:∀{h:AH},Hs G h (Z6 r (13,[])::aE t 0 (qI ways n b o e)::cQ b (o+setOf n no*1) (S (setOf n no))::hole G 1 253 (some ⟨b,o,none⟩) e n b o::Lf b o n S (setOf n no)::L')->Hs G h (gJ G t ways n S::L'):=fun d=>by
  have:=sZ t ways n S (setOf n no) (S (setOf n no)) b o e (kY q) d;rw[zK] at this;exact this.to
 cases hx:ix no (S (setOf n no)) with
 |some i=>
  obtain⟨x,E,z,F,H⟩:=yL hx
  rw[z] at g
  simp only[la,hx]
  exact dR (aae (g _ (back d)))
 |none=>
  rw[(Ba hx).1] at g
  simp only[la,hx]
  obtain⟨a,c,d⟩:=pI (d.front (cQ b (o+setOf n no*1) (S (setOf n no))))
  refine dR (aaa (aB (aC (b:=b) (o:=o+setOf n no*1) d rfl (bP (aB (aA (am t d rfl (aS (aZ (fun B=>?_) (fun B=>?_))))))))))
  .simp only[aKj (show(S (setOf n no)).length<ways by omega)] at g;refine g _ (back ?_);exact(iZ b (o+setOf n no*1) (S (setOf n no)) (a:=a) (c:=c) d rfl rfl).to
  .have k:0<(S (setOf n no)).length:=by omega
   simp only[aKi (show ¬(S (setOf n no)).length<ways by omega),List.getElem?_eq_getElem k] at g
   obtain⟨u,y,A,f⟩:=(d.front (dH 5 256 a c ((S (setOf n no)).length,cS (S (setOf n no))))).fV k
   subst A
   refine aB (aC (b:=b) (o:=o+setOf n no*1) f rfl (dN (i:=0) k (aA (aBa (b:=u) (o:=y) (i:=0*5) (j:=0+0) f (v:=I ((S (setOf n no))[0]).1) ?_ (g _ ?_)))))
   .exact aEs k
   .have f:=f.mQ (jT _) (qQ _);refine back ?_;exact(iZ b (o+setOf n no*1) (S (setOf n no)) (a:=some ⟨u,y,none⟩) (c:=c) f rfl rfl).to
theorem Nl {l:List Th} {i c:Nat} {a:Option Addr} {Q:Value->AH->Prop} (w:i<l.length) (hb:l.length<=4) (d:Hs G h L) [m:Has (dH 5 256 a c) L (l.length,cS l) L']
  (x:∀j,Hs G j (dH 5 256 a c (l.length - 1,cS (l.take i++l.drop (i+1)))::L')->Q (.slice a (l.length - 1) c) j):Cl Pr K 313 [.slice a l.length c,I i,I ((i:Int)+1)] h Q:=by
 have d:=m.of d
 have e:l.length<=c:=by
  obtain⟨r,z,⟨_,_,y⟩,_⟩:=d.fst;rcases y with⟨g,_⟩|⟨g,_⟩|⟨e,_⟩;simp only at g;omega;simp only at g;omega;exact e
 obtain⟨b,o,u,_⟩:=d.oZ (by omega)
 refine cW (bP ?_)
 refine yC (v:= .slice (some ⟨b,o+i*5,none⟩) (i+1 - i) (l.length - i)) ?_ ?_
 .subst u;have k:lS (some (I l.length)) c c=some l.length:=by simp only[lS];rw[aac];simp
  have q:lS (some (I ((i:Int)+1))) l.length l.length=some (i+1):=by simp only[lS];rw[aac];congr 1
  have t:lS (some (I i)) 0 (i+1)=some i:=by simp only[lS];rw[aac];simp
  have f:¬l.length=i:=by omega
  simp only[wV,k,q,t,Option.isNone_some,Bool.false_and,Option.isSome_none,Bool.false_eq_true,if_false,f,dA]
  rw[aac]
 refine bJ (aaa (bW (bP (bE d ?_))))
 intro r h d
 refine aBt (i:=i) (by decide) rfl rfl w d ?_
 intro h d
 refine x _ ?_
 rw[fk,<-Xm,<-Jn]
 exact d.to
theorem Tx {no:Int} {l:List Th} {i:Nat} (h:ix no l=some i):rem no l=l.take i++l.drop (i+1):=by obtain⟨_,_,_,a,_⟩:=yL h;exact a
theorem Sx {no:Int} {l:List Th} {i:Nat} (h:ix no l=some i):l.length - 1=(rem no l).length:=by
 obtain⟨x,b,a,d,e⟩:=yL h;rw[H0,a];rfl
theorem Qz {t ways n:Nat} {no:Int} {S:Nat->List Th} {Q:Value->AH->Prop} (k:0<n) (hb:∀i,(S i).length<=4) (d:Hs G h L) [m:Has (gJ G t ways n) L S L']
  (g:∀r,Hs G r (gJ G t ways n (gB n S no)::L')->Q (.tuple ⟨[.agg ⟨(bB n S no).1.enc⟩,I (bB n S no).2]⟩) r):Cl Pr K 310 [pt t 0 0,I no] h Q:=by
 have d:=m.of d
 refine cW (bM d ?_)
 intro p h d
 unfold bB gB at g
 by_cases j:no<0
 .rw[aKj j,aKj j] at g;refine S9 j d fun h d=>aI rfl (aI rfl (aI rfl (bA (aae (aR d (by decide) (l:=pW.zero.enc) rfl rfl ?_)))));refine ax d ?_;intro h d;exact aR d (by decide) (l:=pW.zero.enc) rfl rfl (g _ d.tail)
 .rw[aKi j,aKi j] at g;obtain⟨b,o,f,d⟩:=H3 (kY (no:=no) k) (d.front (gJ G t ways n S));refine sO (t:=t) (ways:=ways) (n:=n) (b:=b) (o:=o) (cap:=f) (l:=S (setOf n no)) k (by omega) (hb _) d fun h d=>aI rfl (aI rfl (aI rfl (bA (aaa ?_))));refine bW ?_;cases hx:ix no (S (setOf n no)) with
  |none=>
   rw[(Ba hx).1,(Ba hx).2,zK] at g
   simp only[la,hx]
   refine aS (aae (an p d (l:=pW.zero.enc) rfl rfl ?_))
   refine ax (b:=p) (o:=0) d ?_
   intro h d
   refine aR d (by decide) (l:=pW.zero.enc) rfl rfl (g _ ?_)
   have:=sZ t ways n S (setOf n no) (S (setOf n no)) b o f (kY k) d
   rw[zK] at this
   exact this.to
  |some i=>
   obtain⟨x,w,y,A,u⟩:=yL hx
   rw[y] at g
   simp only[la,hx]
   obtain⟨a,c,d⟩:=pI (d.front (cQ b (o+setOf n no*1) (S (setOf n no))))
   obtain⟨q,v,z,e⟩:=(d.front (dH 5 256 a c ((S (setOf n no)).length,cS (S (setOf n no))))).fV (by omega)
   subst z
   refine aS (aaa (bW (aB (aC (b:=b) (o:=o+setOf n no*1) e rfl (dN u (aA (Kq (b:=q) (o:=v) e (by decide) (l:=x.enc) (by rw[Nat.zero_add];exact Yx w) rfl ?_)))))))
   have e:=e.mQ (jT _) (qQ _)
   refine ax (b:=p) (o:=0) e ?_
   intro h d
   refine aB (aC (b:=b) (o:=o+setOf n no*1) d rfl (bH (by have:=hb (setOf n no);omega) (Nl u (hb _) d fun h d=>?_)))
   refine aB (ay (b:=b) (o:=o+setOf n no*1) d ?_)
   intro h d
   refine an p d (l:=x.enc) rfl rfl ?_
   refine ax (b:=p) (o:=0) d ?_
   intro h d
   refine aR d (by decide) (l:=x.enc) rfl rfl (g _ ?_)
   rw[Sx hx,<-Tx hx] at d
   have d:=iZ b (o+setOf n no*1) (rem no (S (setOf n no))) (a:=some ⟨q,v,none⟩) (c:=c) d rfl rfl
   exact(sZ t ways n S (setOf n no) (rem no (S (setOf n no))) b o f (kY k) d).to
end
section
set_option maxRecDepth 100000
variable {G:Bg} {h:AH} {L L' M:List HP}
theorem aGc {_t _ways n b o _cap p c:Nat} {no:Int} {x:pW} {l:List Th} {a:Option Addr} {Q:Value->AH->Prop} (hb:l.length<=4)
  (d:Hs G h (aE p 0 x.enc::aE b (o+setOf n no*1) [.slice a l.length c]::dH 5 256 a c (l.length,cS l)::L))
  (q:∀f,Hs G f (cQ b (o+setOf n no*1) (l++[(no,x)])::L)->Q (I 0) f):Dd 273 4 [] Q [(I no),(pt p 0 0),(pt b (o+setOf n no*1) 0)] h:=by
 refine bW (bE d ?_)
 intro r h d
 refine aB (aC (b:=b) (o:=o+setOf n no*1) d rfl (an p d (l:=x.enc) rfl rfl ?_))
 refine aN (c:=I no::x.enc) rfl (aN (c:=xA (no,x)) rfl ?_)
 refine kD (i:=7) (N:=11) (D:=[]) d rfl rfl rfl rfl rfl ?_
 intro e h d
 refine rV (a:=a) (c:=c) (n:=l.length) (cs:=cS l) (a2:=some e) (c2:=1) (m:=1) (ns:=xA (no,x)) d (by omega) ?_
 intro g j h d
 refine aB (ay (b:=b) (o:=o+setOf n no*1) d ?_)
 intro h d
 refine cZ (show pY _ _=true by simp[pY,pt]) (q _ ?_)
 have k:cS l++xA (no,x)=cS (l++[(no,x)]):=by simp[cS]
 have d:=iZ b (o+setOf n no*1) (l++[(no,x)]) (a:=g) (c:=j) (n:=l.length+1) d (by simp) k
 exact d.to
theorem Cg {t ways n:Nat} {no:Int} {x:pW} {S:Nat->List Th} {Q:Value->AH->Prop} (B:0<=no) (k:0<n) (hb:∀i,(S i).length<=4) (d:Hs G h L) [m:Has (gJ G t ways n) L S L']
  (g:∀v,Hs G v (gJ G t ways n (kK n ways S no x).1::L')->Q (I (kK n ways S no x).2) v):Cl Pr K 273 [pt t 0 0,I no,.agg ⟨x.enc⟩] h Q:=by
 have d:=m.of d
 refine cW (dF d ?_)
 intro p h d
 obtain⟨b,o,f,d⟩:=H3 (kY (no:=no) k) (d.front (gJ G t ways n S))
 refine sO (t:=t) (ways:=ways) (n:=n) (b:=b) (o:=o) (cap:=f) (l:=S (setOf n no)) k (by omega) (hb _) d fun h d=>aI rfl (aI rfl (aI rfl (bA (aaa ?_))))
 obtain⟨a,c,d⟩:=pI (d.front (cQ b (o+setOf n no*1) (S (setOf n no))))
 refine bW ?_
 have fin:∀{h:AH} {M:List HP},Hs G h (aE t 0 (qI ways n b o f)::aE p 0 x.enc::aE b (o+setOf n no*1) [.slice a (rem no (S (setOf n no))).length c]::dH 5 256 a c ((rem no (S (setOf n no))).length,cS (rem no (S (setOf n no))))::
   hole G 1 253 (some ⟨b,o,none⟩) f n b o::Lf b o n S (setOf n no)::L')->
   (bG (mY (pt b (o+setOf n no*1) 0)) fun A=>bG (ld1 h A) fun v9=>bG (lH v9) fun v10=>bG (mY (pt t 0 0)) fun v11=>bG (hQ 0 v11) fun v12=>bG (ld1 h v12) fun q=>bG (uE .geq v10 q) fun u=>
    Br u (Q (I 11) h) (Dd 273 4 [] Q [(I no),(pt p 0 0),(pt b (o+setOf n no*1) 0)] h)):=by
  intro h M d
  have j:(rem no (S (setOf n no))).length<=4:=by rw[H0];have:=hb (setOf n no);split<;>omega
  unfold kK at g
  refine aB (aC (b:=b) (o:=o+setOf n no*1) d rfl (bP (aB (aA (am t d rfl (dR (aZ (fun z=>?_) (fun z=>?_))))))))
  .rw[aac] at g;refine g _ ?_;have d:=iZ b (o+setOf n no*1) (rem no (S (setOf n no))) (a:=a) (c:=c) d rfl rfl;exact(sZ t ways n S (setOf n no) (rem no (S (setOf n no))) b o f (kY k) d).to
  .rw[aab] at g;refine aGc (_t:=t) (_ways:=ways) (_cap:=f) (l:=rem no (S (setOf n no))) (a:=a) (c:=c) j (show Hs G h (aE p 0 x.enc::aE b (o+setOf n no*1) [.slice a (rem no (S (setOf n no))).length c]::dH 5 256 a c ((rem no (S (setOf n no))).length,cS (rem no (S (setOf n no))))::aE t 0 (qI ways n b o f)::
    hole G 1 253 (some ⟨b,o,none⟩) f n b o::Lf b o n S (setOf n no)::L') from d.to) ?_
   intro h d
   exact g _ (sZ t ways n S (setOf n no) (rem no (S (setOf n no))++[(no,x)]) b o f (kY k) d).to
 cases hx:ix no (S (setOf n no)) with
 |none=>
  have e:=(Ba hx).2
  simp only[la,hx]
  refine dR (aaa (bW (bE d ?_)))
  intro r h d
  refine fin (M:=[]) ?_
  rw[e]
  exact d.to
 |some i=>
  obtain⟨y,D,E,F,w⟩:=yL hx
  simp only[la,hx]
  refine dR (aae (bW ?_))
  refine aB (aC (b:=b) (o:=o+setOf n no*1) d rfl (bH (by have:=hb (setOf n no);omega) (Nl w (hb _) d fun h d=>?_)))
  refine aB (ay (b:=b) (o:=o+setOf n no*1) d ?_)
  intro h d
  refine bE d ?_
  intro r h d
  refine fin (M:=[]) ?_
  rw[Sx hx,<-Tx hx] at d
  have d:=d.sg (b:=b) (o:=o+setOf n no*1) (c:=[.slice a (rem no (S (setOf n no))).length c]) rfl
  exact d.to
end
section
set_option maxRecDepth 100000
variable {G:Bg} {h:AH} {L L' M:List HP}
theorem Iz {t ways n:Nat} {no:Int} {S:Nat->List Th} {Q:Value->AH->Prop} (k:0<=no) (j:0<n) (hb:∀i,(S i).length<=4) (a:Hs G h L) [m:Has (gJ G t ways n) L S L']
  (d:∀g,Hs G g (gJ G t ways n (yW n ways S no)::L')->Q (.tuple ⟨[.agg ⟨(bB n S no).1.enc⟩,I (rb n ways S no)]⟩) g):Cl Pr K 271 [pt t 0 0,I no] h Q:=by
 have a:=m.of a
 refine cW (bM a ?_)
 intro p h a
 refine Qz (t:=t) (ways:=ways) (n:=n) (S:=S) j hb a fun h a=>aI rfl (aI rfl ?_)
 refine ax (b:=p) (o:=0) a ?_
 intro h a
 unfold yW rb at d
 refine bA (aZ (fun f=>?_) (fun f=>?_))
 .rw[aKi f,aKi f] at d;refine aR a (by decide) (l:=(bB n S no).1.enc) rfl rfl ?_;refine ax a ?_;intro h a;exact aR a (by decide) (l:=(bB n S no).1.enc) rfl rfl (d _ a.tail)
 .rw[aac,aac] at d;refine bE a ?_;intro r h a;refine an p a (l:=(bB n S no).1.enc) rfl rfl (an p a (l:=(bB n S no).1.enc) rfl rfl ?_);refine Cg (t:=t) (ways:=ways) (n:=n) (S:=gB n S no) k j (uc hb) a fun h a=>?_;refine ax (b:=p) (o:=0) a ?_;intro q e;refine cZ ?_ ?_
  .refine an p a (l:=(bB n S no).1.enc) rfl rfl ?_;exact qY (by simp[pW.enc,pY])
  .exact an p e (l:=(bB n S no).1.enc) rfl rfl (d _ e.to)
end
end Go.Proofs.YtmhapehobfnoiaaGreatDoor.C
end
namespace Go.Proofs.YtmhapehobfnoiaaGreatDoor.C
open Go Go.Ab Go.Hm Go.Ct
section
theorem aDl {a:Option Addr} {n c:Nat} {k:Value->Prop} (b:a=none->k (.bool true)) (d:a≠none->k (.bool false)):bG (Mr .eql (.slice a n c) (.slice none 0 0)) k:=by
 cases a with
 |none=>exact⟨_,rfl,b rfl⟩
 |some a=>exact⟨_,rfl,d (by simp)⟩
set_option maxRecDepth 100000
attribute [local irreducible] bG Br ld1 uF uG B4 mA uX lK P3 hQ mY qG pZ pS lH zE uE Uh Ty Oa Mr Rk Ol Md Ny Rn lN oT sF iV copyV iJ wV Tu U3 Gk kX Mb Qq Sb nL rR xM zA Cl zB Ro sM sC jS fL setLoop cH
variable {G:Bg} {h:AH} {L L' M:List HP}
theorem aj {b o n:Nat} (d:Hs G h (dE n (fun i=>aE b (o+i*1) [.slice none 0 0])::L)):Hs G h (dE n (fun i=>cQ b (o+i*1) [])::L):=
 Hs.J0 (g:=fun i=>cQ b (o+i*1) []) n _ (fun i _ _ _ d=>(iZ b (o+i*1) [] (a:=none) (c:=0) (n:=0) (cs:=[]) (gL (W:=5) (e:=256) d).lU rfl rfl)) d
theorem Tc {s w:Int} (k:1<=s/\s<=8) (l:1<=w/\w<=4) {Q:Value->AH->Prop} (d:Hs G h L) (j:∀p f,Hs G f (gJ G p w.toNat s.toNat (fun _=>[])::L)->Q (.tuple ⟨[pt p 0 0,I 0]⟩) f):Cl Pr K 93 [I s,I w] h Q:=by
 refine cW (aS (aaa (mR (aaa (aS (aaa (mR (aaa (Pm (by omega) (by omega) (by omega) ?_)))))))));dsimp only;refine dK d ?_ rfl ?_ ?_;rw[gR,rK (W:=1) (fun _=>rfl)];rw[gR];exact qK (fun _=>rfl) _;intro a h d;obtain⟨b,o,g,d⟩:=Hs.Jl (W:=1) rfl (by omega) d;cases g;have e:w=(w.toNat:Int):=by omega
 refine aN (c:=qI w.toNat s.toNat b o s.toNat) (by unfold qI;rw[<-e];rfl) (dF d ?_);intro p h d;refine j p h ?_;have d:=aj (d.front (dE s.toNat fun i=>aE b (o+i*1) [.slice none 0 0]));exact sR (b:=b) (o:=o) (cap:=s.toNat) d.to
theorem xc {l:List Th} {a:Option Addr} {c:Nat} {Q:Value->AH->Prop} (hb:l.length<=4) (d:Hs G h L) [m:Has (dH 5 256 a c) L (l.length,cS l) L']
  (k:∀e f j,Hs G j (dH 5 256 e f (l.length,cS l)::dH 5 256 a c (l.length,cS l)::L')->Q (.slice e l.length f) j):Cl Pr K 178 [.slice a l.length c] h Q:=by
 have d:=m.of d
 refine cW (aDl (fun g=>eZ ?_) (fun _=>bV (aN (c:=[]) rfl ?_)))
 .subst g;have q:l=[]:=by
   cases l with
   |nil=>rfl
   |cons y l=>obtain⟨b,o,g,_⟩:=d.oZ (by simp);cases g
  subst q
  exact k none 0 h (gL d)
 .refine dK (W:=5) (n:=0) (c:=0) d rfl rfl rfl ?_;intro i h d;refine rV (a:=some i) (c:=0) (n:=0) (cs:=[]) (a2:=a) (c2:=c) (m:=l.length) (ns:=cS l) d (by omega) ?_;intro e f h d;have:=k e f h (by simpa using d);show Q _ _;simpa using this
theorem cr {_p q b o cap b2 o2 cap2 n ways:Nat} {S:Nat->List Th} {Q:Value->AH->Prop} (H:n<=8) (hb:∀i,(S i).length<=4)
  (D:∀v,Hs G v (dE n (fun i=>cQ b (o+i*1) (S i))::dE n (fun i=>cQ b2 (o2+i*1) (S i))::aE q 0 (qI ways n b2 o2 cap2)::L)->Q (pt q 0 0) v):∀(r i:Nat) (h:AH) (_M:List HP),i+r=n->
  Hs G h (dE n (fun i=>cQ b (o+i*1) (S i))::dE n (fun j=>cQ b2 (o2+j*1) (if j<i then S j else []))::aE q 0 (qI ways n b2 o2 cap2)::L)->
  Dd 126 2 [] Q [(pt q 0 0),(.slice (some ⟨b,o,none⟩) n cap),(I n),(I i)] h:=by
 intro r
 induction r with
 |zero=>
  intro i h M A u
  have:i=n:=by omega
  subst this
  refine bW (aS (aaa (D _ ?_)))
  exact(sV (f:=fun j=>cQ b2 (o2+j*1) (if j<i then S j else [])) (g:=fun j=>cQ b2 (o2+j*1) (S j)) (fun j B=>by rw[aKj B]) u.lU).lU
 |succ r F=>
  intro i h M A u
  have e:i<n:=by omega
  refine bW (aS (aae (bW (dN e ?_))))
  have t:=u.kO i e
  obtain⟨a,c,t⟩:=pI t
  refine aC (b:=b) (o:=o+i*1) t rfl (bE t ?_)
  intro J h u
  refine aB (aA (am q u rfl (xc (l:=S i) (a:=a) (c:=c) (hb i) u fun w x h u=>?_)))
  have k:=(u.front (dE n fun j=>cQ b2 (o2+j*1) (if j<i then S j else []))).kO i e
  simp only[Nat.lt_irrefl,if_false] at k
  obtain⟨a3,c3,k⟩:=pI k
  refine dN e (ay (b:=b2) (o:=o2+i*1) k ?_)
  intro z d
  refine cZ dJ (cZ (aB dJ) (cZ (aA dJ) (cZ (am q k rfl Sw) (cZ jA (aad ?_)))))
  refine F (i+1) z [] (by omega) ?_
  have d:=iZ b2 (o2+i*1) (S i) (a:=w) (c:=x) d rfl rfl
  have y:cQ b2 (o2+i*1) (S i)=(fun j=>cQ b2 (o2+j*1) (if j<i+1 then S j else [])) i:=by simp only[Nat.lt_succ_self,if_true]
  rw[y] at d
  have d:=d.oB (n:=n) (i:=i) (fun j=>cQ b2 (o2+j*1) (if j<i then S j else [])) (fun j=>cQ b2 (o2+j*1) (if j<i+1 then S j else [])) e (fun j _ E=>by
   have:(j<i+1)=(j<i):=propext ⟨fun h=>by omega,fun h=>by omega⟩;simp only[this])
  have d:=iZ b (o+i*1) (S i) (a:=a) (c:=c) d rfl rfl
  have d:=d.oB (n:=n) (i:=i) (fun j=>cQ b (o+j*1) (S j)) (fun j=>cQ b (o+j*1) (S j)) e (fun _ _ _=>rfl)
  exact d.to
theorem aA6 {t ways n:Nat} {S:Nat->List Th} {Q:Value->AH->Prop} (j:0<n) (u:n<=8) (hb:∀i,(S i).length<=4) (d:Hs G h L) [m:Has (gJ G t ways n) L S L']
  (r:∀q k,Hs G k (gJ G q ways n S::gJ G t ways n S::L')->Q (pt q 0 0) k):Cl Pr K 126 [pt t 0 0] h Q:=by
 obtain⟨b,o,e,d⟩:=D8 (m.of d)
 refine cW (dD (bV (bW (bE d ?_))))
 intro v h d
 refine aB (aA (am t d rfl (aB (aA (am t d rfl (bP (ud (by omega) (by omega) ?_)))))))
 dsimp only
 refine kD (i:=9) (N:=13) (D:=[]) d rfl rfl ?_ rfl ?_ ?_
 .rw[gR,rK (W:=1) (fun _=>rfl)]
 .rw[gR];exact qK (fun _=>rfl) _
 intro a h d
 obtain⟨f,g,l,d⟩:=Hs.Jl (W:=1) rfl j d
 cases l
 refine aN (c:=qI ways n f g n) rfl ?_
 refine Ai (i:=11) d rfl rfl ?_
 intro q h d
 refine aB (aA (am t d rfl (bP ?_)))
 have d:=aj (d.front (dE n fun i=>aE f (g+i*1) [.slice none 0 0]))
 refine cr (G:=G) (_p:=0) (ways:=ways) (n:=n) (b:=b) (o:=o) (cap:=e) (b2:=f) (o2:=g) (cap2:=n) (S:=S) (L:=aE t 0 (qI ways n b o e)::hole G 1 253 (some ⟨b,o,none⟩) e n b o::hole G 1 253 (some ⟨f,g,none⟩) n n f g::L') u hb ?_ n 0 h [] (by omega) ?_
 .intro h d;refine r q h ?_;have d:Hs G h (aE q 0 (qI ways n f g n)::hole G 1 253 (some ⟨f,g,none⟩) n n f g::dE n (fun i=>cQ f (g+i*1) (S i))::aE t 0 (qI ways n b o e)::hole G 1 253 (some ⟨b,o,none⟩) e n b o::dE n (fun i=>cQ b (o+i*1) (S i))::L'):=d.to;have d:=sR (b:=f) (o:=g) (cap:=n) d;have d:Hs G h (aE t 0 (qI ways n b o e)::hole G 1 253 (some ⟨b,o,none⟩) e n b o::dE n (fun i=>cQ b (o+i*1) (S i))::gJ G q ways n S::L'):=d.to;exact(sR (b:=b) (o:=o) (cap:=e) d).lU
 .simp only[Nat.not_lt_zero,if_false];exact d.to
end
end Go.Proofs.YtmhapehobfnoiaaGreatDoor.C
section
open Go Go.Ab
attribute [local irreducible] bG Br ld1 uF uG B4 mA uX lK P3 hQ mY qG pZ pS lH zE uE Uh Ty Oa Mr Rk Ol Md Ny Rn lN oT sF iV copyV iJ wV Tu U3 Gk kX Mb Qq Sb nL rR xM zA Cl zB Ro sM sC jS fL setLoop cH
namespace Go.Proofs.YtmhapehobfnoiaaGreatDoor.C
open Go Go.Ab Go.Hm Go.Ct
section
def kV (t:Nat) (C:bN) (core:Int) (s:iH):List Value:=pt t 0 0::(C.enc++[I core,I s.al,.bool s.aw,.bool s.D7,I s.gl,I s.gc.st,I s.gc.w,I s.gc.d.1,I s.gc.d.2,.bool s.sU])
set_option maxRecDepth 100000
variable {G:Bg} {h:AH} {L L' M:List HP}
def iF (G:Bg) (c:Nat) (C:bN) (core:Int) (s:iH):HP:=sB fun t:Nat=>sp [aE c 0 (kV t C core s),gJ G t C.ways.toNat C.aG.toNat s.S]
theorem mJ {c:Nat} {C:bN} {core:Int} {s:iH} (a:Hs G h (iF G c C core s::L)):∃t,Hs G h (aE c 0 (kV t C core s)::gJ G t C.ways.toNat C.aG.toNat s.S::L):=by
 obtain⟨t,a⟩:=a.tW;exact⟨t,a.unpack⟩
theorem cT (c t:Nat) (C:bN) (core:Int) (s:iH) {cs:List Value} {S:Nat->List Th} {a L2:List HP} (e:Hs G h L) [m:Has (aE c 0) L cs a] [m2:Has (gJ G t C.ways.toNat C.aG.toNat) a S L2] (b:cs=kV t C core s) (d:S=s.S):Hs G h (iF G c C core s::L2):=by
 subst b;subst d;exact Hs.qU (A:=fun t:Nat=>sp [aE c 0 (kV t C core s),gJ G t C.ways.toNat C.aG.toNat s.S]) t (Hs.pack (A:=[_,_]) (e.perm (m.perm.trans (m2.perm.cons _))))
variable {C:bN} {core:Int} {c:Nat} {s:iH}
theorem xD (hC:C.Ok) {l:Int} {Q:Value->AH->Prop} (g:Ob G 0 fJ) (a:Hs G h L) [m:Has (iF G c C core) L s L'] (d:∀e,Hs G e (iF G c C core s::L')->Q (.bool (sA C l)) e):Cl Pr K 277 [pt c 0 0,I l] h Q:=by
 obtain⟨t,a⟩:=mJ (m.of a);refine cW (dR (aZ (fun f=>?_) (fun f=>?_)));refine aB (aA (an c a (l:=C.enc) rfl rfl (pK hC g a fun h a=>aS ?_)));show Q _ _;rw[show decide (l<(C.lines:Int))=sA C l from decide_eq_decide.2 (by omega)];exact d _ (cT c t C core s a rfl rfl);rw[show sA C l=false from decide_eq_false (by omega)] at d;exact d _ (cT c t C core s a rfl rfl)
theorem Q4 (hC:C.Ok) (hb:Bd s) {l i:Int} {w:Bool} {Q:Value->AH->Prop} (j:Ob G 3 kH) (a:Hs G h L) [m:Has (iF G c C core) L s L'] (d:∀g,Hs G g (iF G c C core s::L')->Q (.bool (mZ C.aG.toNat s.S l i w)) g):Cl Pr K 210 [pt c 0 0,I l,I i,.bool w] h Q:=by
 obtain⟨t,a⟩:=mJ (m.of a);refine cW (dD (bV (bW (aB (aA (am c a rfl ?_))))));refine E8 (t:=t) (ways:=C.ways.toNat) (n:=C.aG.toNat) (S:=s.S) (nH hC).1 hb a fun h a=>aI rfl (aI rfl (bM a ?_));intro p h a;refine ax a ?_;intro h a;unfold mZ at d;refine bJ (aZ (fun e=>aA (aC a rfl (bJ (aZ (fun f=>?_) (fun f=>?_))))) (fun e=>?_));rw[decide_eq_true e,decide_eq_true f,Bool.true_and,Bool.true_and] at d;exact aR a (by decide) (l:=(bB C.aG.toNat s.S l).1.enc) rfl rfl (Of j a fun h a=>d _ (cT c t C core s a rfl rfl).to);rw[decide_eq_false f,Bool.and_false,Bool.false_and] at d;exact d _ (cT c t C core s a rfl rfl).to;rw[decide_eq_false e,Bool.false_and,Bool.false_and] at d;exact d _ (cT c t C core s a rfl rfl).to
theorem Ss (hC:C.Ok) (hb:Bd s) {l at' j:Int} {w:Bool} {Q:Value->AH->Prop} (k:Ob G 0 fJ) (o:Ob G 3 kH) (b:Hs G h L) [m:Has (iF G c C core) L s L'] (a:∀i,Hs G i (iF G c C core s::L')->Q (I (oE C s.S l at' j w)) i):Cl Pr K 270 [pt c 0 0,I l,I at',I j,.bool w] h Q:=by
 have b:=m.of b;unfold oE at a;refine cW (dD (bV (bW (xD (c:=c) (core:=core) (s:=s) hC k b fun h b=>bX (eN (dG (fun f=>?_) (fun f=>?_)))))));rw[f] at a;simp only[Bool.true_eq_false,if_false] at a;refine aS (aZ (fun d=>?_) (fun d=>dR (aZ (fun e=>?_) (fun e=>bW (Q4 (c:=c) (core:=core) (s:=s) hC hb o b fun h b=>bX (eN (dG (fun g=>?_) (fun g=>?_))))))));rw[aKj d] at a;exact a _ b;rw[aKi d,aKj e] at a;exact a _ b;rw[aKi d,aKi e,aKi (by rw[g];simp)] at a;exact a _ b;rw[aKi d,aKi e,aKj g] at a;exact a _ b;rw[aKj f] at a;exact a _ b
end
section
set_option maxRecDepth 100000
variable {G:Bg} {h:AH} {L L' M:List HP} {C:bN} {core:Int} {c:Nat} {s:iH}
theorem Sn {s':iH} {c t:Nat} {cs:List Value} {S:Nat->List Th} {a L2:List HP} (b:cs=kV t C core s') (d:S=s'.S) (e:Hs G h L) [m:Has (aE c 0) L cs a] [m2:Has (gJ G t C.ways.toNat C.aG.toNat) a S L2]:Hs G h (iF G c C core s'::L2):=cT c t C core s' e b d
theorem Yn {t:Nat} {l w:Int} {wr:Bool} {ns:List aH} {a:Option Addr} {cp:Nat} {Q:Value->AH->Prop} (D:ns.length<=1) (d:Hs G h (aE c 0 (kV t C core (mU core s l w wr ns).1)::gJ G t C.ways.toNat C.aG.toNat s.S::dH 9 162 a cp (ns.length,eI ns)::L))
  (A:∀e f y,Hs G y (dH 9 162 e f ((mU core s l w wr ns).2.1.length,eI (mU core s l w wr ns).2.1)::iF G c C core (mU core s l w wr ns).1::L)->Q (.tuple ⟨[.slice e (mU core s l w wr ns).2.1.length f,I 0]⟩) y):
  Br (.bool wr) (Dd 269 10 [] Q [(pt c 0 0),(I l),(I w),(.slice a ns.length cp)] h) (bG (mY (pt c 0 0)) fun v35=>bG (hQ 8 v35) fun v36=>bG (ld1 h v36) fun v37=>
   bG (pJ [(I 0),(I 0),(I 0),(I 0),(I 0),(I 0),(I 0),(.bool false),(I 0)] [(0,1,(I 1)),(1,1,v37),(2,1,(I l)),(3,1,(I w))]) fun j=>
   bG (pJ [(I 0),(I 0),(I 0),(I 0),(I 0),(I 0),(I 0),(.bool false),(I 0)] [(0,9,(.agg ⟨j⟩))]) fun r=>
   uX h 9 162 r 1 1 fun u k=>bG (iV 9 72 162 k (.slice a ns.length cp) u) fun i=>(fun v q=>Q (.tuple ⟨[v,(I 0)]⟩) q) i.1 i.2):=by
 have fin:∀{h:AH} {e:Option Addr} {f:Nat} (x:aH),x=⟨if wr then 2 else 1,core,l,w,0,0,0,false,0⟩->Hs G h (dH 9 162 e f (ns.length+1,eI ns++x.enc)::aE c 0 (kV t C core (mU core s l w wr ns).1)::gJ G t C.ways.toNat C.aG.toNat s.S::L)->Q (.tuple ⟨[.slice e (ns.length+1) f,I 0]⟩) h:=by
  intro h e f x B d;have z:(mU core s l w wr ns).2.1=ns++[x]:=by rw[B];rfl
  have:=A e f h;rw[z] at this;simp only[List.length_append,List.length_cons,List.length_nil,eI,List.flatMap_append,List.flatMap_cons,List.flatMap_nil,List.append_nil,Nat.zero_add] at this;refine this ?_;have d:=Sn (s':=(mU core s l w wr ns).1) (t:=t) (c:=c) rfl rfl d;exact d.lU
 cases wr
 .refine bV (aB (aA (am c d rfl (aN (c:=(⟨1,core,l,w,0,0,0,false,0⟩:aH).enc) rfl (aN (c:=(⟨1,core,l,w,0,0,0,false,0⟩:aH).enc) rfl (dK (W:=9) (n:=1) (c:=1) d rfl rfl rfl ?_))))));intro g h d;refine rV (a:=a) (c:=cp) (n:=ns.length) (cs:=eI ns) (a2:=some g) (c2:=1) (m:=1) (ns:=(⟨1,core,l,w,0,0,0,false,0⟩:aH).enc) d (by omega) ?_;intro e f h d;exact fin ⟨1,core,l,w,0,0,0,false,0⟩ rfl d.to
 .refine eZ (bW (aB (aA (am c d rfl (aN (c:=(⟨2,core,l,w,0,0,0,false,0⟩:aH).enc) rfl (aN (c:=(⟨2,core,l,w,0,0,0,false,0⟩:aH).enc) rfl (dK (W:=9) (n:=1) (c:=1) d rfl rfl rfl ?_)))))));intro g h d;refine rV (a:=a) (c:=cp) (n:=ns.length) (cs:=eI ns) (a2:=some g) (c2:=1) (m:=1) (ns:=(⟨2,core,l,w,0,0,0,false,0⟩:aH).enc) d (by omega) ?_;intro e f h d;exact fin ⟨2,core,l,w,0,0,0,false,0⟩ rfl d.to
theorem dw {t:Nat} {l w:Int} {wr:Bool} {ns:List aH} {a:Option Addr} {cp:Nat} {Q:Value->AH->Prop} (j:ns.length<=1) (d:Hs G h (aE c 0 (kV t C core s)::gJ G t C.ways.toNat C.aG.toNat s.S::dH 9 162 a cp (ns.length,eI ns)::L))
  (i:∀e f g,Hs G g (dH 9 162 e f ((mU core s l w wr ns).2.1.length,eI (mU core s l w wr ns).2.1)::iF G c C core (mU core s l w wr ns).1::L)->Q (.tuple ⟨[.slice e (mU core s l w wr ns).2.1.length f,I 0]⟩) g):
  Dd 269 8 [] Q [(pt c 0 0),(I l),(I w),(.bool wr),(.slice a ns.length cp)] h:=by
 refine bW (aN (c:=[I l,.bool wr,.bool true]) rfl (aB (aA (ay (b:=c) (o:=0) d ?_))))
 intro h d
 have d:=d.sg (b:=c) (o:=0) (c:=kV t C core (mU core s l w wr ns).1) rfl
 exact Yn (t:=t) j d i
theorem xj (_hb:Bd s) {t p:Nat} {l w no:Int} {x:pW} {wr:Bool} {S:Nat->List Th} {Q:Value->AH->Prop} (z:Ob G 3 kH) (d:Hs G h (aE p 0 x.enc::aE c 0 (kV t C core s)::gJ G t C.ways.toNat C.aG.toNat S::L))
  (y:∀f g k r,r=mU core {s with S:=S,gl:=no,gc:=x,sU:=true} l w wr [⟨3,core,no,x.w,0,x.d.1,x.d.2,jH x.st,0⟩]->Hs G k (dH 9 162 f g (r.2.1.length,eI r.2.1)::iF G c C core r.1::L)->Q (.tuple ⟨[.slice f r.2.1.length g,I 0]⟩) k):
  Dd 269 11 [] Q [(pt c 0 0),(I l),(I w),(.bool wr),(.slice none 0 0),(I no),(pt p 0 0)] h:=by
 refine bW (aR d (by decide) (l:=x.enc) rfl rfl (aN (c:=[I no,I x.st,I x.w,I x.d.1,I x.d.2,.bool true]) rfl (aB (aA (ay (b:=c) (o:=0) d ?_)))))
 intro h d
 have d:=d.sg (b:=c) (o:=0) (c:=kV t C core {s with S:=S,gl:=no,gc:=x,sU:=true}) rfl
 refine bE d ?_
 intro B h d
 refine aB (aA (am c d rfl (aA (am p d rfl (aA (an p d (l:=[I x.d.1,I x.d.2]) rfl rfl (aA (am p d rfl (Ks z d ?_)))))))))
 refine aN (c:=(⟨3,core,no,x.w,0,x.d.1,x.d.2,jH x.st,0⟩:aH).enc) rfl (aN (c:=(⟨3,core,no,x.w,0,x.d.1,x.d.2,jH x.st,0⟩:aH).enc) rfl ?_)
 refine kD (i:=14) (N:=17) (D:=[]) d rfl rfl rfl rfl rfl ?_
 intro v h d
 have d:=gL (W:=9) (e:=162) d
 refine rV (a:=none) (c:=0) (n:=0) (cs:=[]) (a2:=some v) (c2:=1) (m:=1) (ns:=(⟨3,core,no,x.w,0,x.d.1,x.d.2,jH x.st,0⟩:aH).enc) d (by omega) ?_
 intro f g A q
 have j:Hs G h (aE p 0 x.enc::_):=d.front (aE p 0 x.enc)
 have u:Hs G h (aE c 0 (kV t C core {s with S:=S,gl:=no,gc:=x,sU:=true})::_):=d.front (aE c 0 (kV t C core {s with S:=S,gl:=no,gc:=x,sU:=true}))
 refine cZ Sw (cZ dJ (cZ (aB dJ) (cZ (aA dJ) (cZ (am c u rfl jA) (cZ jA (cZ (aA dJ) (cZ (am p j rfl jA) (cZ (aA dJ) (cZ (an p j (l:=[I x.d.1,I x.d.2]) rfl rfl (qY (by simp[pY]))) ?_)))))))))
 refine aN (c:=[I l,.bool wr,.bool true]) rfl (aB (aA (ay (b:=c) (o:=0) q ?_)))
 intro h d
 have d:=d.sg (b:=c) (o:=0) (c:=kV t C core (mU core {s with S:=S,gl:=no,gc:=x,sU:=true} l w wr [⟨3,core,no,x.w,0,x.d.1,x.d.2,jH x.st,0⟩]).1) rfl
 refine Yn (t:=t) (s:={s with S:=S,gl:=no,gc:=x,sU:=true}) (ns:=[⟨3,core,no,x.w,0,x.d.1,x.d.2,jH x.st,0⟩]) (a:=f) (cp:=g) (L:=L) (by simp) ?_ (fun f g k=>y f g k _ rfl)
 exact(show Hs G h (aE c 0 (kV t C core (mU core {s with S:=S,gl:=no,gc:=x,sU:=true} l w wr [⟨3,core,no,x.w,0,x.d.1,x.d.2,jH x.st,0⟩]).1)::gJ G t C.ways.toNat C.aG.toNat S::dH 9 162 f g (0+1,[]++(⟨3,core,no,x.w,0,x.d.1,x.d.2,jH x.st,0⟩:aH).enc)::L) from d.to)
theorem ru (hC:C.Ok) (hb:Bd s) {t:Nat} {l w:Int} (x:0<=l) {wr:Bool} {Q:Value->AH->Prop} (y:Ob G 3 kH) (d:Hs G h (aE c 0 (kV t C core s)::gJ G t C.ways.toNat C.aG.toNat s.S::L))
  (f:∀g i j,Hs G j (dH 9 162 g i ((zI C core s l w wr).2.1.length,eI (zI C core s l w wr).2.1)::iF G c C core (zI C core s l w wr).1::L)->Q (.tuple ⟨[.slice g (zI C core s l w wr).2.1.length i,I (zI C core s l w wr).2.2]⟩) j):
  bG (mY (pt c 0 0)) fun v0=>bG (hQ 0 v0) fun v1=>bG (ld1 h v1) fun v2=>Cl Pr K 309 [v2,I l] h fun v3 u=>
   bG (qG 0 v3) fun v4=>bG (qG 1 v3) fun v5=>bG (qG 2 v3) fun v6=>bG (uE .neq v6 (I 0)) fun A=>
   Br A (Q (.tuple ⟨[(.slice none 0 0),v6]⟩) u) (Dd 269 6 [] Q [(pt c 0 0),(I l),(I w),(.bool wr),(.slice none 0 0),v4,v5] u):=by
 unfold zI at f
 refine aB (aA (am c d rfl ?_))
 refine fi (t:=t) (ways:=C.ways.toNat) (n:=C.aG.toNat) (S:=s.S) (nH hC).2.2.1 (nH hC).1 x hb d fun h d=>?_
 cases hv:xH C.aG.toNat C.ways.toNat s.S l with
 |none=>
  simp only[hv] at f
  refine aI rfl (aI rfl (aI rfl (bA (aaa (bW (bV ?_))))))
  exact dw (t:=t) (s:=s) (ns:=[]) (a:=none) (cp:=0) (L:=L) (by simp) (show Hs G h (aE c 0 (kV t C core s)::gJ G t C.ways.toNat C.aG.toNat s.S::dH 9 162 none 0 (0,[])::L) from(gL (W:=9) (e:=162) d).to) f
 |some v=>
  simp only[hv] at f
  refine aI rfl (aI rfl (aI rfl (bA (aaa (bW (eZ (bW (aB (aA (aA (am c d rfl (dG (fun k=>?_) (fun k=>?_)))))))))))))
  .simp only[k,if_true] at f;exact f none 0 h (gL (W:=9) (e:=162) (Sn (s':=s) (t:=t) (c:=c) rfl rfl d))
  .simp only[aKi (show ¬(s.sU=true) from by rw[k];simp)] at f;refine bW (aB (aA (am c d rfl ?_)));refine Qz (t:=t) (ways:=C.ways.toNat) (n:=C.aG.toNat) (S:=s.S) (nH hC).1 hb d fun h d=>aI rfl (aI rfl (bM d ?_));intro p h d;refine ax d ?_;intro h d;refine bA (aZ (fun q=>?_) (fun q=>?_))
   .simp only[aKj q] at f;refine f none 0 h (gL (W:=9) (e:=162) ?_);exact(cT c t C core {s with S:=gB C.aG.toNat s.S v.1} (cs:=kV t C core s) d rfl rfl).to
   .simp only[aKi q] at f;refine xj (s:=s) hb y (show Hs G h (aE p 0 (bB C.aG.toNat s.S v.1).1.enc::aE c 0 (kV t C core s)::gJ G t C.ways.toNat C.aG.toNat (gB C.aG.toNat s.S v.1)::L) from d.to) ?_;intro g i j r z;subst z;exact f g i j
theorem y4 (hC:C.Ok) (hb:Bd s) {l w:Int} {wr:Bool} {Q:Value->AH->Prop} (J:Ob G 0 fJ) (A:Ob G 3 kH) (a:Hs G h L) [m:Has (iF G c C core) L s L']
  (d:∀g i k,Hs G k (dH 9 162 g i ((want C core s l w wr).2.1.length,eI (want C core s l w wr).2.1)::iF G c C core (want C core s l w wr).1::L')->Q (.tuple ⟨[.slice g (want C core s l w wr).2.1.length i,I (want C core s l w wr).2.2]⟩) k):
  Cl Pr K 269 [pt c 0 0,I l,I w,.bool wr] h Q:=by
 have a:=m.of a
 unfold want at d
 refine cW (dD (bV (bW (xD (c:=c) (core:=core) (s:=s) hC J a fun h a=>bX (eN (dG (fun v=>?_) (fun v=>?_)))))))
 .simp only[v,Bool.true_eq_false,if_false] at d;have D:0<=l:=(of_decide_eq_true v).1;obtain⟨t,a⟩:=mJ a;refine bW (aB (aA (aA (am c a rfl (dG (fun y=>?_) (fun y=>bW ?_))))))
  .simp only[y,if_true] at d;exact d none 0 h (gL (W:=9) (e:=162) (cT c t C core s a rfl rfl))
  .simp only[y,Bool.false_eq_true,if_false] at d;have u:¬(s.sU=true/\s.gl=l)->(bG (mY (pt c 0 0)) fun v0=>bG (hQ 0 v0) fun v1=>bG (ld1 h v1) fun v2=>Cl Pr K 267 [v2,I l] h fun v3 f=>
     bG (qG 0 v3) fun v4=>bG (qG 1 v3) fun v5=>B4 f (.cells [(I 0),(I 0),(I 0),(I 0)] 146 (0,0) true) fun E H=>bG (uG H 4 (pt E 0 0) v4) fun x=>bG (uE .eql v5 (I 0)) fun v9=>
     Br v9 (bG (uF x 4 (pt E 0 0)) fun v10=>Cl Pr K 268 [v10,.bool wr] x fun v11 r=>Br v11 (Q (.tuple ⟨[(.slice none 0 0),(I 13)]⟩) r) (Dd 269 5 [] Q [(pt c 0 0),(I l),(I w),(.bool wr)] r))
      (bG (mY (pt c 0 0)) fun v0=>bG (hQ 0 v0) fun v1=>bG (ld1 x v1) fun v2=>Cl Pr K 309 [v2,I l] x fun v3 f=>
       bG (qG 0 v3) fun v4=>bG (qG 1 v3) fun v5=>bG (qG 2 v3) fun v6=>bG (uE .neq v6 (I 0)) fun N=>
       Br N (Q (.tuple ⟨[(.slice none 0 0),v6]⟩) f) (Dd 269 6 [] Q [(pt c 0 0),(I l),(I w),(.bool wr),(.slice none 0 0),v4,v5] f))):=by
    intro f
    simp only[aKi f] at d
    refine aB (aA (am c a rfl ?_))
    refine E8 (t:=t) (ways:=C.ways.toNat) (n:=C.aG.toNat) (S:=s.S) (nH hC).1 hb a fun h a=>aI rfl (aI rfl (bM a ?_))
    intro p h a
    refine ax a ?_
    intro h a
    have B:Hs G h (aE c 0 (kV t C core s)::gJ G t C.ways.toNat C.aG.toNat s.S::aE p 0 (bB C.aG.toNat s.S l).1.enc::L'):=a.to
    have j:∀{g i k} {X:List Value} {n:Nat} {F:iH},Hs G k (dH 9 162 g i (n,X)::iF G c C core F::aE p 0 (bB C.aG.toNat s.S l).1.enc::L')->Hs G k (dH 9 162 g i (n,X)::iF G c C core F::L'):=fun a=>a.to
    refine bJ (aZ (fun q=>?_) (fun q=>?_))
    .refine an p a (l:=(bB C.aG.toNat s.S l).1.enc) rfl rfl (Of A a fun h a=>dG (fun z=>?_) (fun z=>?_))
     .simp only[aKj (show(bB C.aG.toNat s.S l).2=0/\mM (bB C.aG.toNat s.S l).1.st wr=true from⟨q,z⟩)] at d;exact d none 0 h (gL (W:=9) (e:=162) (cT c t C core s a rfl rfl).to)
     .simp only[aKi (show ¬((bB C.aG.toNat s.S l).2=0/\mM (bB C.aG.toNat s.S l).1.st wr=true) from fun e=>by rw[z] at e;exact absurd e.2 (by simp))] at d;refine bW (ru hC hb D A (show Hs G h (aE c 0 (kV t C core s)::gJ G t C.ways.toNat C.aG.toNat s.S::L') from a.to) d)
    .simp only[aKi (show ¬((bB C.aG.toNat s.S l).2=0/\mM (bB C.aG.toNat s.S l).1.st wr=true) from fun e=>q e.1)] at d;exact ru hC hb D A B fun g i k a=>d g i k (j a)
   refine aB (aA (aA (am c a rfl (dG (fun f=>?_) (fun f=>?_)))))
   .refine aB (aA (aA (am c a rfl (bJ (aZ (fun q=>?_) (fun q=>bW (u (fun e=>q e.2))))))));simp only[aKj (show s.sU=true/\s.gl=l from⟨f,q⟩)] at d;exact d none 0 h (gL (W:=9) (e:=162) (cT c t C core s a rfl rfl))
   .exact u (fun e=>by rw[f] at e;exact absurd e.1 (by simp))
 .simp only[v,if_true] at d;exact d none 0 h (gL (W:=9) (e:=162) a)
end
section
set_option maxRecDepth 100000
variable {G:Bg} {h:AH} {L L' M:List HP} {C:bN} {core:Int} {c:Nat} {s:iH} {n:aH}
theorem rY {a:iH} {Q:Value->AH->Prop} {e:Int} {r:Tk} (g:∀b d f,Hs G f (dH 9 162 b d (r.2.1.length,eI r.2.1)::iF G c C core r.1::L)->Q (.tuple ⟨[.slice b r.2.1.length d,I r.2.2]⟩) f) (i:r=(a,[],e)) (j:Hs G h (iF G c C core a::L)):Q (.tuple ⟨[.slice none 0 0,I e]⟩) h:=by
 subst i;exact g none 0 h (gL (W:=9) (e:=162) j)
theorem Lt {a:iH} {x:aH} {p:Addr} {Q:Value->AH->Prop} {r:Tk} (g:∀b d f,Hs G f (dH 9 162 b d (r.2.1.length,eI r.2.1)::iF G c C core r.1::L)->Q (.tuple ⟨[.slice b r.2.1.length d,I r.2.2]⟩) f) (i:r=(a,[x],0)) (j:Hs G h (dH 9 162 (some p) 1 (1,x.enc)::iF G c C core a::L)):Q (.tuple ⟨[.slice (some p) 1 1,I 0]⟩) h:=by
 subst i;refine g (some p) 1 h ?_;have e:eI [x]=x.enc:=by simp[eI]
 simp only[e,List.length_cons,List.length_nil,Nat.zero_add];exact j
abbrev Yv (G:Bg) (c:Nat) (C:bN) (core:Int) (L:List HP) (Q:Value->AH->Prop) (r:Tk):Prop:=∀a b d,Hs G d (dH 9 162 a b (r.2.1.length,eI r.2.1)::iF G c C core r.1::L)->Q (.tuple ⟨[.slice a r.2.1.length b,I r.2.2]⟩) d
theorem aAb {Q:Value->AH->Prop} (d:Hs G h (iF G c C core s::L)) (i:Yv G c C core L Q (Et s n)):Cl Pr K 316 [pt c 0 0,.agg ⟨n.enc⟩] h Q:=by
 obtain⟨t,d⟩:=mJ d;refine cW (dF d ?_);intro p h d;refine bE d ?_;intro r h d;refine aB (aA (aA (am c d rfl (bX (eN (dG (fun g=>?_) (fun g=>?_)))))));refine aB (aA (aA (am c d rfl (aA (am p d rfl (bA (aZ (fun f=>?_) (fun f=>?_))))))));exact rY i (a:=s) (e:=16) (by simp[Et,g,f]) (cT c t C core s d rfl rfl).to;refine bW (aN (c:=[I 0,.bool false,.bool false]) rfl (aB (aA (ay (b:=c) (o:=0) d ?_))));intro h d;have f:s.al=n.line:=by simpa using f
 exact rY i (a:={s with al:=0,aw:=false,D7:=false}) (e:=0) (by simp[Et,g,f]) (cT c t C core {s with al:=0,aw:=false,D7:=false} d rfl rfl).to;exact rY i (a:=s) (e:=16) (by simp[Et,g]) (cT c t C core s d rfl rfl).to
theorem du {Q:Value->AH->Prop} (d:Hs G h (iF G c C core s::L)) (i:Yv G c C core L Q (sP s n)):Cl Pr K 317 [pt c 0 0,.agg ⟨n.enc⟩] h Q:=by
 obtain⟨t,d⟩:=mJ d;refine cW (dF d ?_);intro p h d;refine bE d ?_;intro r h d;refine aB (aA (aA (am c d rfl (bX (eN (dG (fun g=>?_) (fun g=>?_)))))));refine aB (aA (aA (am c d rfl (aA (am p d rfl (bA (aZ (fun f=>?_) (fun f=>?_))))))));exact rY i (a:=s) (e:=12) (by simp[sP,g,f]) (cT c t C core s d rfl rfl).to;refine bW (aN (c:=[I 0,I 0,I 0,I 0,I 0,.bool false]) rfl (aB (aA (ay (b:=c) (o:=0) d ?_))));intro h d;have f:s.gl=n.line:=by simpa using f
 exact rY i (a:={s with gl:=0,gc:=pW.zero,sU:=false}) (e:=0) (by simp[sP,g,f]) (cT c t C core {s with gl:=0,gc:=pW.zero,sU:=false} d rfl rfl).to;exact rY i (a:=s) (e:=12) (by simp[sP,g]) (cT c t C core s d rfl rfl).to
theorem y9 {t p:Nat} {S:Nat->List Th} {Q:Value->AH->Prop} {r:Tk} (d:Hs G h (aE p 0 n.enc::aE c 0 (kV t C core s)::gJ G t C.ways.toNat C.aG.toNat S::L)) (e:Yv G c C core L Q r) (f:r=({s with S:=S,al:=0,aw:=false,D7:=false},[⟨4,core,n.line,0,0,0,0,false,0⟩],0)):
  Dd 315 4 [] Q [(pt c 0 0),(pt p 0 0)] h:=by
 refine bW (aN (c:=[I 0,.bool false,.bool false]) rfl (aB (aA (ay (b:=c) (o:=0) d ?_))))
 intro h d
 refine bE d ?_
 intro g h d
 refine aB (aA (am c d rfl (aA (am p d rfl ?_))))
 refine aN (c:=(⟨4,core,n.line,0,0,0,0,false,0⟩:aH).enc) rfl (aN (c:=(⟨4,core,n.line,0,0,0,0,false,0⟩:aH).enc) rfl ?_)
 refine kD (i:=7) (N:=10) (D:=[]) d rfl rfl rfl rfl rfl ?_
 intro a h d
 refine Lt e (p:=a) f ?_
 have d:=cT c t C core {s with S:=S,al:=0,aw:=false,D7:=false} d rfl rfl
 exact d.to
theorem D1 (hC:C.Ok) (hb:Bd s) {Q:Value->AH->Prop} (g:0<=n.line) (d:Hs G h (iF G c C core s::L)) (u:Yv G c C core L Q (vE C core s n)):Cl Pr K 315 [pt c 0 0,.agg ⟨n.enc⟩] h Q:=by
 obtain⟨t,d⟩:=mJ d;refine cW (dF d ?_);intro p h d;refine bE d ?_;intro r h d;refine aB (aA (aA (am c d rfl (bX (eN (dG (fun k=>?_) (fun k=>?_)))))));refine aB (aA (aA (am c d rfl (aA (am p d rfl (bA (aZ (fun j=>?_) (fun j=>?_))))))));exact rY u (a:=s) (e:=16) (by simp[vE,k,j]) (cT c t C core s d rfl rfl).to;have j:s.al=n.line:=by simpa using j
 refine bW (aA (am p d rfl (aA (am p d rfl (aA (an p d (l:=[I n.d0,I n.d1]) rfl rfl ?_))))));refine aN (c:=(⟨n.state,n.world,(n.d0,n.d1)⟩:pW).enc) rfl (bM d ?_);intro q h d;refine ax d ?_;intro h d;refine bE d ?_;intro D h d;refine aB (aA (am c d rfl (aA (am p d rfl ?_))));refine E8 (t:=t) (ways:=C.ways.toNat) (n:=C.aG.toNat) (S:=s.S) (nH hC).1 hb d fun h d=>aI rfl (aI rfl ?_);refine kQ (i:=10) d rfl rfl ?_;intro z h d;refine ax d ?_;intro h d;have fin:∀{v:Bool} {h:AH},v=true->Hs G h (aE q 0 (iY C s n).enc::aE p 0 n.enc::aE c 0 (kV t C core s)::gJ G t C.ways.toNat C.aG.toNat s.S::L)->
   (P3 v h 9 fun B g=>bG (mY (pt c 0 0)) fun v2=>bG (hQ 0 v2) fun v3=>bG (ld1 g v3) fun v4=>bG (hQ 2 (pt p 0 0)) fun v5=>bG (ld1 g v5) fun v6=>bG (uF g 4 (pt q 0 0)) fun A=>
    Cl Pr K 273 [v4,v6,A] g fun y x=>bG (uE .neq y (I 0)) fun v9=>Br v9 (Q (.tuple ⟨[(.slice none 0 0),y]⟩) x) (Dd 315 4 [] Q [(pt c 0 0),(pt p 0 0)] x)):=by
  intro v h w d
  refine bE (hc:=w) d ?_
  intro r3 h d
  refine aB (aA (am c d rfl (aA (am p d rfl (an q d (l:=(iY C s n).enc) rfl rfl ?_)))))
  refine Cg (t:=t) (ways:=C.ways.toNat) (n:=C.aG.toNat) (S:=s.S) g (nH hC).1 hb d fun h d=>?_
  refine bA (aZ (fun f=>?_) (fun f=>?_))
  .refine rY u (a:={s with S:=(kK C.aG.toNat C.ways.toNat s.S n.line (iY C s n)).1}) (by simp[vE,k,j,f]) ?_;exact(cT c t C core {s with S:=(kK C.aG.toNat C.ways.toNat s.S n.line (iY C s n)).1} (cs:=kV t C core s) d rfl rfl).to
  .have f:(kK C.aG.toNat C.ways.toNat s.S n.line (iY C s n)).2=0:=by simpa using f
   exact y9 (t:=t) (S:=(kK C.aG.toNat C.ways.toNat s.S n.line (iY C s n)).1) (s:=s) (n:=n) d.to u (by simp[vE,k,j,f])
 refine cZ (aI rfl jA) (bJ (aZ (fun f=>bW ?_) (fun f=>bW (fin (by kernel_rfl) ?_))));refine aA (an z d (l:=[I (bB C.aG.toNat s.S n.line).1.d.1,I (bB C.aG.toNat s.S n.line).1.d.2]) rfl rfl (aA (ay (b:=q) (o:=0) d ?_)));intro h d;have e:iY C s n=⟨n.state,n.world,(bB C.aG.toNat s.S n.line).1.d⟩:=by simp[iY,f]
 have d:=d.sg (b:=q) (o:=0) (c:=(iY C s n).enc) (by rw[e];rfl);exact fin (by kernel_rfl) d.to;have e:iY C s n=⟨n.state,n.world,(n.d0,n.d1)⟩:=by simp[iY,f]
 rw[e];exact d.to;exact rY u (a:=s) (e:=16) (by simp[vE,k]) (cT c t C core s d rfl rfl).to
end
section
set_option maxRecDepth 100000
variable {G:Bg} {h:AH} {L L' M:List HP} {C:bN} {core:Int} {c:Nat} {s:iH} {n:aH}
theorem zc {t p q:Nat} {x:pW} {y:aH} {Q:Value->AH->Prop} {r:Tk} (d:Hs G h (aE p 0 y.enc::aE q 0 x.enc::aE c 0 (kV t C core s)::gJ G t C.ways.toNat C.aG.toNat s.S::L)) (e:Yv G c C core L Q r) (f:r=({s with gc:=x},[y],0)):
  Dd 318 8 [] Q [(pt c 0 0),(pt p 0 0),(pt q 0 0)] h:=by
 refine bW (an q d (l:=x.enc) rfl rfl (aB (aA (aA (ay (b:=c) (o:=0) d ?_)))))
 intro h d
 refine an p d (l:=y.enc) rfl rfl (aN (c:=y.enc) rfl (dK (W:=9) (n:=1) (c:=1) d rfl rfl rfl ?_))
 intro a h d
 refine Lt e (p:=a) f ?_
 have d:=cT c t C core {s with gc:=x} d rfl rfl
 exact d.to
theorem aA2 (hC:C.Ok) (hb:Bd s) (j:0<=n.line) {t f p q:Nat} {x:pW} {y:aH} {Q:Value->AH->Prop} {r:Tk} (d:Hs G h (aE p 0 y.enc::aE q 0 x.enc::aE f 0 n.enc::aE c 0 (kV t C core s)::gJ G t C.ways.toNat C.aG.toNat s.S::L)) (i:Yv G c C core L Q r)
  (e:r=({s with S:=if x.st=0 then gB C.aG.toNat s.S n.line else(kK C.aG.toNat C.ways.toNat s.S n.line x).1},[y],0)):
  Dd 318 9 [] Q [(pt c 0 0),(pt f 0 0),(pt p 0 0),(pt q 0 0),(I x.st)] h:=by
 refine bW (bJ (aZ (fun g=>bW (bE d ?_)) (fun g=>bW (bE d ?_))))
 .intro k h d;simp only[aKj g] at e;refine aB (aA (am c d rfl (aA (am f d rfl ?_))));refine Qz (t:=t) (ways:=C.ways.toNat) (n:=C.aG.toNat) (S:=s.S) (nH hC).1 hb d fun h d=>?_;refine an p d (l:=y.enc) rfl rfl (aN (c:=y.enc) rfl (dK (W:=9) (n:=1) (c:=1) d rfl rfl rfl ?_));intro a h d;refine Lt i (p:=a) e ?_;have d:=cT c t C core {s with S:=gB C.aG.toNat s.S n.line} (cs:=kV t C core s) d rfl rfl;exact d.to
 .intro k h d;simp only[aKi g] at e;refine aB (aA (am c d rfl (aA (am f d rfl (an q d (l:=x.enc) rfl rfl ?_)))));refine Cg (t:=t) (ways:=C.ways.toNat) (n:=C.aG.toNat) (S:=s.S) j (nH hC).1 hb d fun h d=>?_;refine an p d (l:=y.enc) rfl rfl (aN (c:=y.enc) rfl (dK (W:=9) (n:=1) (c:=1) d rfl rfl rfl ?_));intro a h d;refine Lt i (p:=a) e ?_;have d:=cT c t C core {s with S:=(kK C.aG.toNat C.ways.toNat s.S n.line x).1} (cs:=kV t C core s) d rfl rfl;exact d.to
theorem Zk (hC:C.Ok) (hb:Bd s) (j:0<=n.line) {there:Bool} {t f p q:Nat} {x:pW} {Q:Value->AH->Prop} {r:Tk} (a:Hs G h (aE p 0 (Mi core n).enc::aE q 0 x.enc::aE f 0 n.enc::aE c 0 (kV t C core s)::gJ G t C.ways.toNat C.aG.toNat s.S::L)) (i:Yv G c C core L Q r)
  (d:r=if there then({s with S:=if gC x.st n.state=0 then gB C.aG.toNat s.S n.line else(kK C.aG.toNat C.ways.toNat s.S n.line {x with st:=gC x.st n.state}).1},[gS core n x],0) else({s with gc:={x with st:=gC x.st n.state}},[gS core n x],0)):
  Dd 318 5 [] Q [(pt c 0 0),(pt f 0 0),(pt p 0 0),(pt q 0 0),(.bool there),(I (gC x.st n.state)),(.bool (C6 x.st)),(.bool (jH x.st))] h:=by
 have fin:∀{h:AH},Hs G h (aE p 0 (gS core n x).enc::aE q 0 ({x with st:=gC x.st n.state}:pW).enc::aE f 0 n.enc::aE c 0 (kV t C core s)::gJ G t C.ways.toNat C.aG.toNat s.S::L)->
   (bG (Rn .not (.bool there)) fun k=>Br k (Dd 318 8 [] Q [(pt c 0 0),(pt p 0 0),(pt q 0 0)] h) (Dd 318 9 [] Q [(pt c 0 0),(pt f 0 0),(pt p 0 0),(pt q 0 0),(I (gC x.st n.state))] h)):=by
  intro h a
  cases there
  .simp only[Bool.false_eq_true,if_false] at d;exact bX (eZ (zc (t:=t) (x:={x with st:=gC x.st n.state}) (y:=gS core n x) (s:=s) a.to i d))
  .simp only[if_true] at d;exact bX (bV (aA2 hC hb j (t:=t) (x:={x with st:=gC x.st n.state}) (y:=gS core n x) (s:=s) a i d))
 refine bW (aA (ay (b:=p) (o:=0) a ?_))
 intro h a
 refine dG (fun g=>bW ?_) (fun g=>bW ?_)
 .refine aA (an q a (l:=[I x.d.1,I x.d.2]) rfl rfl (aA (ay (b:=p) (o:=0) a ?_)));intro h a;refine aA (ay (b:=p) (o:=0) a ?_);intro h a;refine aA (ay (b:=q) (o:=0) a ?_);intro h a;have e:gS core n x=⟨5,core,n.line,0,gC x.st n.state,x.d.1,x.d.2,jH x.st,0⟩:=by simp[gS,g]
  have a:=a.sg (b:=p) (o:=0) (c:=(gS core n x).enc) (by rw[e];rfl)
  have a:=a.sg (b:=q) (o:=0) (c:=({x with st:=gC x.st n.state}:pW).enc) rfl
  exact fin a.to
 .refine aA (ay (b:=q) (o:=0) a ?_);intro h a;have e:gS core n x=⟨5,core,n.line,0,gC x.st n.state,0,0,false,0⟩:=by simp[gS,g]
  have a:=a.sg (b:=p) (o:=0) (c:=(gS core n x).enc) (by rw[e];rfl)
  have a:=a.sg (b:=q) (o:=0) (c:=({x with st:=gC x.st n.state}:pW).enc) rfl
  exact fin a.to
end
section
set_option maxRecDepth 100000
variable {G:Bg} {h:AH} {L L' M:List HP} {C:bN} {core:Int} {c:Nat} {s:iH} {n:aH}
theorem xl (hC:C.Ok) (hb:Bd s) (w:Sts C.aG.toNat s) (D:n.state=0\/n.state=1) (A:0<=n.line) {t v p q:Nat} {x:pW} {Q:Value->AH->Prop} (E:Ob G 3 kH)
  (d:Hs G h (aE p 0 (Mi core n).enc::aE q 0 x.enc::aE v 0 n.enc::aE c 0 (kV t C core s)::gJ G t C.ways.toNat C.aG.toNat s.S::L)) (u:(bB C.aG.toNat s.S n.line).2≠0) (z:Yv G c C core L Q (oA C core s n)):
  Dd 318 2 [] Q [(pt c 0 0),(pt v 0 0),(pt p 0 0),(pt q 0 0),(.bool false)] h:=by
 have g:¬(n.state≠1/\n.state≠0):=by omega
 refine bW (bE d ?_)
 intro J h d
 have f:s.sU=false\/s.gl≠n.line->(bG (uF h 9 (pt p 0 0)) fun H=>bG (pJ [(I 0),(I 0),(I 0),(I 0),(I 0),(I 0),(I 0),(.bool false),(I 0)] [(0,9,H)]) fun F=>uX h 9 162 F 1 1 fun y B=>Q (.tuple ⟨[y,(I 0)]⟩) B):=by
  intro j;refine an p d (l:=(Mi core n).enc) rfl rfl (aN (c:=(Mi core n).enc) rfl (dK (W:=9) (n:=1) (c:=1) d rfl rfl rfl ?_));intro a h d;refine Lt z (p:=a) (a:=s) (x:=Mi core n) ?_ ?_;rcases j with j|j;simp[oA,g,u,j,Mi];by_cases r:s.sU=false;simp[oA,g,u,r,Mi];simp only[oA,aKi g,aKi u,aKi r,aKj j,Mi];have d:=cT c t C core s d rfl rfl;exact d.to
 refine aB (aA (aA (am c d rfl (bX (eN (dG (fun k=>?_) (fun k=>f (.inl k))))))))
 refine aB (aA (aA (am c d rfl (aA (am v d rfl (bA (aZ (fun i=>f (.inr i)) (fun i=>bW ?_))))))))
 have i:s.gl=n.line:=by simpa using i
 refine aB (aA (aA (an c d (l:=s.gc.enc) rfl rfl (ax (b:=q) (o:=0) d ?_))))
 intro h d
 refine aA (am q d rfl (aA (am v d rfl (Oh E d (w.back k) D (aI rfl (aI rfl (aI rfl (aI rfl (bA (aaa ?_))))))))))
 refine Zk hC hb A (there:=false) (t:=t) (x:=s.gc) (s:=s) (n:=n) (core:=core) (L:=L) d.to z ?_
 have r:¬s.sU=false:=by rw[k];simp
 simp only[oA,aKi g,aKi u,aKi r,aKi (show ¬s.gl≠n.line from fun e=>e i),Bool.false_eq_true,if_false]
theorem aAr (hC:C.Ok) (hb:Bd s) (e:Sts C.aG.toNat s) (k:n.state=0\/n.state=1) (i:0<=n.line) {t f p q:Nat} {Q:Value->AH->Prop} (l:Ob G 3 kH)
  (a:Hs G h (aE p 0 (Mi core n).enc::aE q 0 (bB C.aG.toNat s.S n.line).1.enc::aE f 0 n.enc::aE c 0 (kV t C core s)::gJ G t C.ways.toNat C.aG.toNat s.S::L)) (g:(bB C.aG.toNat s.S n.line).2=0) (j:Yv G c C core L Q (oA C core s n)):
  Dd 318 3 [] Q [(pt c 0 0),(pt f 0 0),(pt p 0 0),(pt q 0 0),(.bool true)] h:=by
 have d:¬(n.state≠1/\n.state≠0):=by omega
 refine bW (aA (am q a rfl (aA (am f a rfl (Oh l a (e.aI6 _ g) k (aI rfl (aI rfl (aI rfl (aI rfl (bA (aaa ?_)))))))))))
 refine Zk hC hb i (there:=true) (t:=t) (x:=(bB C.aG.toNat s.S n.line).1) (s:=s) (n:=n) (core:=core) (L:=L) a j ?_
 simp only[oA,aKi d,aKj g,if_true]
theorem Fh (hC:C.Ok) (hb:Bd s) (f:Sts C.aG.toNat s) (l:0<=n.line) {Q:Value->AH->Prop} (u:Ob G 3 kH) (d:Hs G h (iF G c C core s::L)) (k:Yv G c C core L Q (oA C core s n)):Cl Pr K 318 [pt c 0 0,.agg ⟨n.enc⟩] h Q:=by
 obtain⟨t,d⟩:=mJ d;refine cW (dF d ?_);intro j h d;refine aA (am j d rfl (bA (aZ (fun v=>aA (am j d rfl (bA (aZ (fun w=>?_) (fun w=>bW ?_))))) (fun v=>?_))));exact rY k (a:=s) (e:=10) (by simp only[oA];rw[aKj ⟨by omega,by omega⟩]) (cT c t C core s d rfl rfl).to;all_goals
  have r:n.state=0\/n.state=1:=by omega
  refine bE d ?_
  intro z h d
  refine aB (aA (am c d rfl (aA (am j d rfl (aN (c:=(Mi core n).enc) rfl ?_)))))
  refine kQ (i:=7) d rfl rfl ?_
  intro p h d
  refine ax d ?_
  intro h d
  refine bE d ?_
  intro y h d
  refine aB (aA (am c d rfl (aA (am j d rfl ?_))))
  refine E8 (t:=t) (ways:=C.ways.toNat) (n:=C.aG.toNat) (S:=s.S) (nH hC).1 hb d fun h d=>aI rfl (aI rfl ?_)
  refine kQ (i:=10) d rfl rfl ?_
  intro q h d
  refine ax d ?_
  intro h d
  refine cZ (aI rfl jA) (bJ (bX ?_))
  by_cases g:(bB C.aG.toNat s.S n.line).2=0
  .rw[decide_eq_true g];exact bV (aAr hC hb f r l (t:=t) u d.to g k)
  .rw[decide_eq_false g];exact eZ (xl hC hb f r l (t:=t) (x:=(bB C.aG.toNat s.S n.line).1) u d.to g k)
end
section
def vX (k:Int) (f:FuncId):List Value:=[I k,.func (.func f) #[] #[]]
def Km:List Value:=vX 8 315++vX 9 316++vX 10 317++vX 11 318
set_option maxRecDepth 100000
variable {G:Bg} {h:AH} {L L' M:List HP} {C:bN} {core:Int} {c:Nat} {s:iH} {n:aH}
theorem zh (hC:C.Ok) {p q:Nat} {k:Int} {f:FuncId} {Q:Value->AH->Prop} {r:Tk} (x:Ob G 0 fJ) (d:Hs G h (aE q 0 (vX k f)::aE p 0 n.enc::iF G c C core s::L))
  (i:callable Pr f=true) (y:sA C n.line=false->r=(s,[],10)) (w:sA C n.line=true->∀h L,Hs G h (iF G c C core s::L)->∀Q,Yv G c C core L Q r->Cl Pr K f [pt c 0 0,.agg ⟨n.enc⟩] h Q) (j:Yv G c C core L Q r):
  Dd 217 5 [] Q [(pt c 0 0),(pt p 0 0),(pt q 0 0)] h:=by
 refine bW (aA (am p d rfl (xD (c:=c) (core:=core) (s:=s) hC x d fun h d=>bX (eN (dG (fun g=>?_) (fun g=>?_))))))
 .refine aA (am q d rfl (an p d (l:=n.enc) rfl rfl ?_));refine rC i (w g h (aE q 0 (vX k f)::aE p 0 n.enc::L) d.to _ fun t u v d=>aI rfl (aI rfl (j t u v d.to)))
 .exact rY j (a:=s) (e:=10) (y g) d.to
theorem Dw (hC:C.Ok) (hb:Bd s) (w:Sts C.aG.toNat s) {Q:Value->AH->Prop} (H:Ob G 0 fJ) (J:Ob G 3 kH) (d:Hs G h L) [m:Has (iF G c C core) L s L'] (j:Yv G c C core L' Q (fQ C core s n)):
  Cl Pr K 217 [pt c 0 0,.agg ⟨n.enc⟩] h Q:=by
 have d:=m.of d
 refine cW (dF d ?_)
 intro p h d
 refine dD (bV (bW (cW ?_)))
 refine aN (c:=vX 8 315) rfl (aN (c:=vX 9 316) rfl (aN (c:=vX 10 317) rfl (aN (c:=vX 11 318) rfl (aN (c:=Km) rfl ?_))))
 refine dK (W:=2) (n:=4) (c:=4) d rfl rfl rfl ?_
 intro a h d
 obtain⟨b,o,E,d⟩:=d.fV (by decide)
 cases E
 refine bP ?_
 have x:sA C n.line=true->0<=n.line:=fun e=>(of_decide_eq_true e).1
 have step:∀(i:Nat) (y:i<4) (k:Int) (f:FuncId) (h:AH) (M:List HP),(Km.drop (i*2)).take 2=vX k f->callable Pr f=true->Hs G h (aE b o Km::aE p 0 n.enc::iF G c C core s::L')->
   (n.kind=k->((sA C n.line=false->fQ C core s n=(s,[],10))/\(sA C n.line=true->∀h L,Hs G h (iF G c C core s::L)->∀Q,Yv G c C core L Q (fQ C core s n)->Cl Pr K f [pt c 0 0,.agg ⟨n.enc⟩] h Q)))->
   (n.kind≠k->∀h,Hs G h (aE b o Km::aE p 0 n.enc::iF G c C core s::L')->Dd 217 2 [] Q [(pt c 0 0),(pt p 0 0),(.slice (some ⟨b,o,none⟩) 4 4),(I 4),(I ((i+1:Nat):Int))] h)->
   Dd 217 2 [] Q [(pt c 0 0),(pt p 0 0),(.slice (some ⟨b,o,none⟩) 4 4),(I 4),(I (i:Int))] h:=by
  intro i y k f h M F u d r v
  refine bW (aS (aae (bW (dN y (Kq (b:=b) (o:=o) d (by decide) (l:=vX k f) (by rw[Nat.add_zero];exact F) rfl (bM d ?_))))))
  intro q h d
  refine ax d ?_
  intro h d
  refine aA (am q d rfl (aA (am p d rfl (bA (aZ (fun t=>bW (aad ?_)) (fun t=>?_))))))
  .have:=v (fun e=>t e.symm) h d.to;show Dd _ _ _ _ _ _;simpa using this
  .have t:n.kind=k:=by
    have:k=n.kind:=by simpa using t
    exact this.symm
   exact zh (k:=k) (f:=f) (s:=s) (n:=n) hC H (show Hs G h (aE q 0 (vX k f)::aE p 0 n.enc::iF G c C core s::L') from d.to) u (r t).1 (r t).2 j
 have d:Hs G h (aE b o Km::aE p 0 n.enc::iF G c C core s::L'):=d.to
 refine step 0 (by decide) 8 315 h [] rfl (by kernel_rfl) d (fun e=>⟨fun g=>by simp[fQ,e,g],fun g h L d Q j=>D1 hC hb (x g) d (by simpa [fQ,e,g] using j)⟩) fun z h d=>?_
 refine step 1 (by decide) 9 316 h [] rfl (by kernel_rfl) d (fun e=>⟨fun g=>by simp[fQ,e,g],fun g h L d Q j=>aAb d (by simpa [fQ,e,g] using j)⟩) fun A h d=>?_
 refine step 2 (by decide) 10 317 h [] rfl (by kernel_rfl) d (fun e=>⟨fun g=>by simp[fQ,e,g],fun g h L d Q j=>du d (by simpa [fQ,e,g] using j)⟩) fun B h d=>?_
 refine step 3 (by decide) 11 318 h [] rfl (by kernel_rfl) d (fun e=>⟨fun g=>by simp[fQ,e,g],fun g h L d Q j=>Fh hC hb w (x g) J d (by simpa [fQ,e,g] using j)⟩) fun D h d=>?_
 refine bW (aS (aaa ?_))
 exact rY j (a:=s) (e:=15) (by simp[fQ,z,A,B,D]) d.to
theorem Zu (hC:C.Ok) (hb:Bd s) {Q:Value->AH->Prop} (a:Hs G h L) [m:Has (iF G c C core) L s L'] (f:∀d e,Hs G e (iF G d C core s::iF G c C core s::L')->Q (pt d 0 0) e):Cl Pr K 76 [pt c 0 0] h Q:=by
 obtain⟨t,a⟩:=mJ (m.of a);refine cW (dD (bV (bW (aB (an c a (l:=kV t C core s) rfl rfl (bM a ?_))))));intro d h a;refine ax a ?_;intro h a;refine aB (aA (am c a rfl (aA6 (t:=t) (ways:=C.ways.toNat) (n:=C.aG.toNat) (S:=s.S) (nH hC).1 (nH hC).2.1 hb a fun t2 h a=>?_)));refine aA (ay (b:=d) (o:=0) a ?_);intro h a;have a:=a.sg (b:=d) (o:=0) (c:=kV t2 C core s) rfl;have a:=cT d t2 C core s a rfl rfl;have a:=cT c t C core s a rfl rfl;exact f d h a.to
theorem Qk (hC:C.Ok) (d:0<=core/\core<C.aD) {Q:Value->AH->Prop} (i:Ob G 0 fJ) (a:Hs G h L) (g:∀c e,Hs G e (iF G c C core iH.new::L)->Q (.tuple ⟨[pt c 0 0,I 0]⟩) e):Cl Pr K 37 [.agg ⟨C.enc⟩,I core] h Q:=by
 refine cW (dF a ?_);intro p h a;refine an p a (l:=C.enc) rfl rfl (nJ i a fun h a=>?_);have f:=hC;unfold bN.Ok at f;rw[aKj hC];refine bA (aaa (bW (aS (aaa (aA (am p a rfl (dR (aaa (bW ?_)))))))));refine aA (am p a rfl (aA (am p a rfl (Tc (by omega) (by omega) a fun t h a=>aI rfl (aI rfl (bA (aaa ?_)))))));refine an p a (l:=C.enc) rfl rfl (aN (c:=kV t C core iH.new) rfl (dF a ?_));intro q h a;have a:=cT q t C core iH.new a rfl rfl;exact g q h a.to
end
section
set_option maxRecDepth 100000
variable {G:Bg} {h:AH} {L L' M:List HP} {C:bN} {core:Int} {c:Nat} {s:iH} {n:aH}
theorem uu (hC:C.Ok) (d:gU C s) {l at' i:Int} (k:oE C s.S l at' i false=0) {Q:Value->AH->Prop} (v:Ob G 0 fJ) (w:Ob G 3 kH) (a:Hs G h L) [m:Has (iF G c C core) L s L'] (f:∀j,Hs G j (iF G c C core (oK C s l at' i)::L')->Q (.tuple ⟨[I (Mc.Pk C s l at'),I 0]⟩) j):Cl Pr K 212 [pt c 0 0,I l,I at',I i] h Q:=by
 have a:=m.of a;have q:Bd s:=d.bd (nH hC).2.2.2;unfold oK at f;refine cW (Ss (c:=c) (core:=core) (s:=s) hC q v w a fun h a=>bA (aaa ?_));rw[aKj k] at f;obtain⟨g,r,x,_⟩:=tE k;have u:=Sy d.aG x;obtain⟨t,a⟩:=mJ a;refine bW (aB (aA (am c a rfl (Iz (t:=t) (ways:=C.ways.toNat) (n:=C.aG.toNat) (S:=s.S) g.1 (nH hC).1 q a fun h a=>aI rfl (aI rfl (bM a ?_))))));intro p h a;refine ax a ?_;intro h a;have e:=fun {h:AH} a=>(cT c t C core {s with S:=yW C.aG.toNat C.ways.toNat s.S l} (G:=G) (h:=h) (L:=aE p 0 (bB C.aG.toNat s.S l).1.enc::gJ G t C.ways.toNat C.aG.toNat (yW C.aG.toNat C.ways.toNat s.S l)::aE c 0 (kV t C core s)::L') a rfl rfl);refine bA (aaa (aA ?_));rcases r with rfl|rfl;exact jJ (by decide) (by decide) (am p a rfl (f _ (e a).to));exact jJ (by decide) (by decide) (am p a rfl (f _ (e a).to))
theorem gn (hC:C.Ok) (e:gU C s) {l at' w v:Int} (z:oE C s.S l at' w true=0) {Q:Value->AH->Prop} (E:Ob G 0 fJ) (A:Ob G 3 kH) (a:Hs G h L) [m:Has (iF G c C core) L s L'] (q:∀y,Hs G y (iF G c C core (kC C s l at' w v)::L')->Q (I 0) y):Cl Pr K 213 [pt c 0 0,I l,I at',I w,I v] h Q:=by
 have a:=m.of a;have j:Bd s:=e.bd (nH hC).2.2.2;unfold kC at q;refine cW (Ss (c:=c) (core:=core) (s:=s) hC j E A a fun h a=>bA (aaa ?_));rw[aKj z] at q;obtain⟨u,D,F,d⟩:=tE z;have d:vA (bB C.aG.toNat s.S l).1.st=true:=d;obtain⟨t,a⟩:=mJ a;refine bW (aB (aA (am c a rfl ?_)));refine E8 (t:=t) (ways:=C.ways.toNat) (n:=C.aG.toNat) (S:=s.S) (nH hC).1 j a fun h a=>aI rfl (aI rfl (bM a ?_));intro p h a;refine ax a ?_;intro h a;refine bA (aaa (bW (aA (am p a rfl (rn A a d (aI rfl (aI rfl (aA (ay (b:=p) (o:=0) a ?_)))))))));intro h a;refine bA (aaa (bW (aA ?_)));have f:∀{g:Bool} {h:AH},g=true->Hs G h (aE p 0 (xN C.aG.toNat s.S l at' v).enc::gJ G t C.ways.toNat C.aG.toNat s.S::aE c 0 (kV t C core s)::L')->
   P3 g h 8 fun _ i=>bG (mY (pt c 0 0)) fun v5=>bG (hQ 0 v5) fun v6=>bG (ld1 i v6) fun H=>bG (uF i 4 (pt p 0 0)) fun J=>Cl Pr K 273 [H,I l,J] i fun v9 B=>Q v9 B:=by
  intro g h k a
  refine bE (hc:=k) a ?_
  intro r h a
  refine aB (aA (am c a rfl (an p a (l:=(xN C.aG.toNat s.S l at' v).enc) rfl rfl ?_)))
  refine Cg (t:=t) (ways:=C.ways.toNat) (n:=C.aG.toNat) (S:=s.S) u.1 (nH hC).1 j a fun h a=>?_
  show Q _ _
  rw[Ag (x:=xN C.aG.toNat s.S l at' v) e.aG F]
  exact q _ (cT c t C core {s with S:=(kK C.aG.toNat C.ways.toNat s.S l (xN C.aG.toNat s.S l at' v)).1} (cs:=kV t C core s) a rfl rfl).to
 rcases D with rfl|rfl;refine jJ (by decide) (by decide) (ay (b:=p) (o:=0) a ?_);intro h a;exact f (by kernel_rfl) ((a.sg (b:=p) (o:=0) (c:=(xN C.aG.toNat s.S l 0 v).enc) rfl).to);refine jJ (by decide) (by decide) (ay (b:=p) (o:=0) a ?_);intro h a;exact f (by kernel_rfl) ((a.sg (b:=p) (o:=0) (c:=(xN C.aG.toNat s.S l 1 v).enc) rfl).to)
end
end Go.Proofs.YtmhapehobfnoiaaGreatDoor.C
end
namespace Go.Proofs.YtmhapehobfnoiaaGreatDoor.N
open Go Go.Ab Go.Hm Go.Nt
section
theorem pG {g n a i:Nat} {k:Value->Prop} (d:i<n) (e:k (pt g (i*a) 0)):bG (oT n a (.pointer (some ⟨g,0,none⟩)) (I i)) k:=
 gK (b:=g) (o:=0) (j:=0) d (by simpa [pt] using e)
set_option maxRecDepth 100000
attribute [local irreducible] bG Br ld1 uF uG B4 mA uX lK P3 hQ mY qG pZ pS lH zE uE Uh Ty Oa Mr Rk Ol Md Ny Rn lN oT sF iV copyV iJ wV Tu U3 Gk kX Mb Qq Sb nL rR xM zA Cl zB Ro sM sC jS fL setLoop cH
variable {G:Bg} {h:AH} {L L':List HP}
theorem zT {k:Int} {Q:Value->AH->Prop} (a:Q (.bool (decide (Ms k))) h):Cl Pr K 286 [I k] h Q:=by
 refine cW (dR (aZ (fun b=>aS ?_) (fun b=>?_)));show Q _ _;rw[show decide (k<14)=decide (Ms k) from decide_eq_decide.2 (by unfold Ms;omega)];exact a;show Q _ _;rw[show false=decide (Ms k) from(decide_eq_false (by unfold Ms;omega)).symm];exact a
theorem aH3 {k:Int} (h:Ms k):∃n:Nat,k=(n:Int)/\1<=n/\n<14:=⟨k.toNat,by unfold Ms at h;omega,by unfold Ms at h;omega,by unfold Ms at h;omega⟩
theorem Zq {k:Int} {Q:Value->AH->Prop} (d:Ob G 2 yK) (g:Hs G h L) (b:Q (if Ms k then .tuple ⟨[I (Kd k.toNat),I 0]⟩ else .tuple ⟨[I 0,I 15]⟩) h):Cl Pr K 229 [I k] h Q:=by
 refine cW (zT (bX (eN (aZ (fun a=>?_) (fun a=>?_)))));rw[aKj a] at b;obtain⟨n,rfl,f,e⟩:=aH3 a;refine pG e (aA (Af g d (o:=n*9) (j:=1) (W2 e) b));rw[aKi a] at b;exact b
theorem Iz {n:aH} {f:Int} (g:1<=f/\f<=13) {Q:Value->AH->Prop} (b:Hs G h L) (a:∀e,Hs G e L->Q (I (j2 n f)) e):Cl Pr K 288 [.agg ⟨n.enc⟩,I f] h Q:=by
 refine cW (dF b ?_);intro p h b;have a:=a h b.tail;rcases f13 g with rfl|rfl|rfl|rfl|rfl|rfl|rfl|rfl|rfl|rfl|rfl|rfl|rfl;all_goals
  repeat' first
   |refine bJ ?_
   |refine bS (by decide) ?_
   |refine aJ (by decide) ?_
   |refine bW ?_
   |refine bW ?_
   |refine bW ?_
   |refine bW ?_
   |refine bW ?_
   |refine bW ?_
   |refine bW ?_
   |refine bW ?_
   |refine bW ?_
   |refine bW ?_
   |refine bW ?_
   |refine bW ?_
   |refine aA ?_
   |refine jJ (by omega) (by omega) ?_
   |refine aC b rfl ?_
 all_goals first|exact a|skip
 refine dG (fun d=>?_) (fun d=>?_);unfold j2 at a;show Q _ _;simpa [d] using a;unfold j2 at a;show Q _ _;simpa [d] using a
theorem aD4 {p:Nat} {n:aH} {f v:Int} (d:1<=f/\f<=13) {Q:Value->AH->Prop} (a:Hs G h (aE p 0 n.enc::L)) (e:∀b,Hs G b (aE p 0 (aA3 n f v).enc::L)->Q (.tuple ⟨[]⟩) b):Cl Pr K 290 [pt p 0 0,I f,I v] h Q:=by
 refine cW ?_;rcases f13 d with rfl|rfl|rfl|rfl|rfl|rfl|rfl|rfl|rfl|rfl|rfl|rfl|rfl;all_goals
  repeat' first
   |refine bJ ?_
   |refine bA ?_
   |refine bS (by decide) ?_
   |refine aJ (by decide) ?_
   |refine bW ?_
   |refine bW ?_
   |refine bW ?_
   |refine bW ?_
   |refine bW ?_
   |refine bW ?_
   |refine bW ?_
   |refine bW ?_
   |refine bW ?_
   |refine bW ?_
   |refine bW ?_
   |refine aB ?_
   |refine aA ?_
   |refine jJ (by omega) (by omega) ?_
  refine ay a ?_
  intro h a
  exact e h a
theorem Lp {a b:Prop} [Decidable a] [Decidable b] {Q:Value->AH->Prop} (d:a↔b) (e:Q (.bool (decide b)) h):Q (.bool (decide a)) h:=by rwa [show decide a=decide b from decide_eq_decide.2 d]
theorem Vo {b:Prop} [Decidable b] {Q:Value->AH->Prop} (a:¬b) (d:Q (.bool (decide b)) h):Q (.bool false) h:=by rwa [decide_eq_false a] at d
theorem Ch {b:Prop} [Decidable b] {Q:Value->AH->Prop} (a:b) (d:Q (.bool (decide b)) h):Q (.bool true) h:=by rwa [decide_eq_true a] at d
theorem Q4 {C:bN} (hC:C.Ok) {f v:Int} (j:1<=f/\f<=13) {Q:Value->AH->Prop} (k:Ob G 0 fJ) (d:Hs G h L) (g:∀i,Hs G i L->Q (.bool (decide (pg C f v))) i):Cl Pr K 289 [.agg ⟨C.enc⟩,I f,I v] h Q:=by
 refine cW (dF d ?_);intro p h d;have a:=g h d.tail;unfold pg at g a;rcases f13 j with rfl|rfl|rfl|rfl|rfl|rfl|rfl|rfl|rfl|rfl|rfl|rfl|rfl;all_goals
  repeat' first
   |refine bS (by decide) ?_
   |refine aJ (by decide) ?_
   |refine bJ ?_
   |refine bW ?_
   |refine bW ?_
   |refine bW ?_
   |refine bW ?_
   |refine bW ?_
   |refine bW ?_
   |refine bW ?_
   |refine bW ?_
   |refine bW ?_
   |refine bW ?_
   |refine bW ?_
 all_goals simp only[Int.reduceEq,if_true,if_false,or_true,or_self,or_false,decide_true] at g a
 exact dR (aZ (fun b=>aA (aC d rfl (aS (Lp (by omega) a)))) (fun b=>Vo (by omega) a));exact dR (aZ (fun b=>aR d (by decide) (l:=C.enc) rfl rfl (pK hC k d fun h d=>aS (Lp (by omega) (g h d.tail)))) (fun b=>Vo (by omega) a));exact dR (aZ (fun b=>yV (Lp (by omega) a)) (fun b=>Vo (by omega) a));exact dR (aZ (fun b=>yV (Lp (by omega) a)) (fun b=>Vo (by omega) a));exact dR (aZ (fun b=>yV (Lp (by omega) a)) (fun b=>Vo (by omega) a));exact(aZ (fun b=>Ch (by omega) a) (fun b=>bJ (aZ (fun e=>Ch (by omega) a) (fun e=>bJ (Lp (by omega) a)))));exact(aZ (fun b=>Ch (by omega) a) (fun e=>bJ (Lp (by omega) a)));exact a;exact a;exact(aZ (fun b=>Ch (by omega) a) (fun e=>bJ (Lp (by omega) a)));exact(aZ (fun b=>Ch (by omega) a) (fun e=>bJ (Lp (by omega) a)));exact dR (aZ (fun b=>aS (Lp (by omega) a)) (fun b=>Vo (by omega) a));exact dR (aZ (fun b=>aA (aC d rfl (aS (Lp (by omega) a)))) (fun b=>Vo (by omega) a))
end
section
theorem neN {a n:aH} {k:Value->Prop} (d:k (.bool (decide (a≠n)))) {b:Bool} (hc:b=true:=by kernel_rfl):Ny b [0,0,0,0,0,0,0,1,0] .neq (.agg ⟨a.enc⟩) (.agg ⟨n.enc⟩) k:=by
 refine⟨hc,_,?_,d⟩;cases a;cases n;simp[Md,qF,T7,Sp,aH.enc];rw[Bool.eq_iff_iff];simp
set_option maxRecDepth 100000
attribute [local irreducible] bG Br ld1 uF uG B4 mA uX lK P3 hQ mY qG pZ pS lH zE uE Uh Ty Oa Mr Rk Ol Md Ny Rn lN oT sF iV copyV iJ wV Tu U3 Gk kX Mb Qq Sb nL rR xM zA Cl zB Ro sM sC jS fL setLoop cH
variable {G:Bg} {h:AH} {L L':List HP}
theorem aEa {P:Program} {f:FuncId} {p:List Nat} {n l d:Nat} {e:Nat->Value} {st:LoopState} {pd:Option Code} {k:Option Code×AH->Prop} (o:Hs G h L) [m:oO l L ⟨P,f,p,n,e,d,st,pd⟩ L'] (g:st≠.busy) (j:∀i,Hs G i L'->k (pd,i)):bG (sC h l) k:=
 nk (P:=P) (f:=f) (p:=p) (n:=n) (e:=e) (d:=d) (st:=st) (pd:=pd) (k:=fun a b=>k (a,b)) (show Hs G h (gF P f p n e d l (st,pd)::L') from m.of o) g j
theorem at7 {l:List Int} {i:Nat} {k:Value->Prop} (d:l.length=7) (a:i<7) (b:k (I (l.getD i 0))):bG (Mb 7 1 (.agg ⟨l.map I⟩) (I i)) k:=
 Y8 a (by rw[List.getElem?_map,List.getElem?_eq_getElem (by omega),List.getD_eq_getElem?_getD,List.getElem?_eq_getElem (by omega)];rfl) b
theorem jh {k:Int} {Q:Value->AH->Prop} (a:Hs G h L) (d:∀p b,Hs G b (aE p 0 [I k]::L)->Q (.func (.func 322) #[] #[pt p 0 0]) b):Cl Pr K 287 [I k] h Q:=by
 refine cW (dF a ?_);intro p h a;exact d p h a
theorem vd {p n:Nat} (g:Ob G 2 yK) (d:n<14):Xn Pr K G 322 [] [pt p 0 0] (aE p 0 [I n]) ((Cs n).map fun f=>[I f]):=by
 intro o J y L h Q a w k q;refine cW (aC a rfl (pG d (aA (Vq a g (l:=(kr n).map I) (ku d) (by rw[List.length_map,Zc d]) (by rw[jt];omega) ?_))));have t:=Zc d;have loop:∀(f i:Nat) (h:AH),i+f=7->Hs G h (aE p 0 [I n]::o ((ws (kr n) f i).map fun f=>[I f])::L)->Dd 322 1 [] Q [y,(.agg ⟨(kr n).map I⟩),(I i)] h:=by
  intro f;induction f with
  |zero=>
   intro i h r a;exact bW (aS (aaa (k _ h a)))
  |succ f x=>
   intro i h r a;unfold ws at a;refine bW (aS (aae (bW (at7 t (by omega) (bJ (aZ (fun e=>?_) (fun e=>?_)))))));rw[aKj e] at a;exact k _ h a;rw[aKi e] at a;refine(w _ _ h _ a.lU).mono fun v j u=>?_;rcases u with⟨rfl,b⟩|⟨rfl,b⟩;exact bX (bV (bW (aad (x (i+1) j (by omega) b.lU))));exact bX (eZ (q _ j b.lU))
 exact loop 7 0 h rfl a
def ckC (C:bN) (n:aH) (p2 b p5 g l d:Nat) (e:Nat->Value) (rest:List (List Value)) (fs:List Int) (a:aH):List HP:=
 [tX (rest=fs.map fun f=>[I f]),tX (∀f∈fs,1<=f/\f<=13),tX (mE C n fs a=mE C n (Cs n.kind.toNat) (B0 n.kind)),gF Pr 228 (gI 1786) 41 e d l (.ready,none),aE p2 0 C.enc,aE b 0 n.enc,aE p5 0 [.bool true],aE g 0 a.enc]
def ckI (C:bN) (n:aH) (p2 a p5 b l d:Nat) (e:Nat->Value) (rest:List (List Value)):HP:=sB fun x:List Int×aH=>sp (ckC C n p2 a p5 b l d e rest x.1 x.2)
def ckJ (C:bN) (n:aH) (p2 b p5 f l d:Nat) (e:Nat->Value):HP:=sB fun a:aH=>sp [tX ((mE C n (Cs n.kind.toNat) (B0 n.kind)).1=false),gF Pr 228 (gI 1786) 41 e d l (.done,some (.exit 0)),aE p2 0 C.enc,aE b 0 n.enc,aE p5 0 [.bool false],aE f 0 a.enc]
theorem B8 {C:bN} {n:aH} {p2 b p5 g l d:Nat} {e:Nat->Value} {rest:List (List Value)} {fs:List Int} {a:aH} (i:rest=fs.map fun f=>[I f]) (j:∀f∈fs,1<=f/\f<=13) (k:mE C n fs a=mE C n (Cs n.kind.toNat) (B0 n.kind))
  (o:Hs G h (sp [gF Pr 228 (gI 1786) 41 e d l (.ready,none),aE p2 0 C.enc,aE b 0 n.enc,aE p5 0 [.bool true],aE g 0 a.enc]::L)):Hs G h (ckI C n p2 b p5 g l d e rest::L):=
 Hs.qU (A:=fun x:List Int×aH=>sp (ckC C n p2 b p5 g l d e rest x.1 x.2)) (fs,a) (tC i (tC j (tC k o)))
theorem Ax {C:bN} {n:aH} {p2 i p5 j l d:Nat} {e:Nat->Value} {rest:List (List Value)} (b:Hs G h (ckI C n p2 i p5 j l d e rest::L)):∃g a,(rest=g.map fun f=>[I f])/\(∀f∈g,1<=f/\f<=13)/\mE C n g a=mE C n (Cs n.kind.toNat) (B0 n.kind)/\
  Hs G h (gF Pr 228 (gI 1786) 41 e d l (.ready,none)::aE p2 0 C.enc::aE i 0 n.enc::aE p5 0 [.bool true]::aE j 0 a.enc::L):=by
 obtain⟨⟨g,a⟩,b⟩:=Hs.tW b
 obtain⟨k,b⟩:=gH b
 obtain⟨o,b⟩:=gH b
 obtain⟨q,b⟩:=gH b
 exact⟨g,a,k,o,q,b.unpack⟩
theorem aDg {C:bN} {n:aH} {Q:Value->AH->Prop} (J:Ob G 2 yK) (R:Ob G 0 fJ) (i:Hs G h L) (r:∀j,Hs G j L->Q (I (nC C n)) j):Cl Pr K 228 [.agg ⟨C.enc⟩,.agg ⟨n.enc⟩] h Q:=by
 unfold nC at r;refine cW (dF i ?_);intro D h i;refine dF i ?_;intro B h i;refine aA (aC i rfl (zT (bX (eN (aZ (fun q=>bW ?_) (fun q=>iU ?_))))));rw[aKj q] at r;refine aR i (by decide) (l:=C.enc) rfl rfl (nJ R i fun h i=>?_);by_cases hC:C.Ok;rw[aKj hC] at r ⊢;refine bA (aaa (bW (bM i ?_)));intro P h i;refine ax i ?_;intro h i;refine aA (aC i rfl (aN (c:=(B0 n.kind).enc) rfl (bM i ?_)));intro w h i;refine ax i ?_;intro h i;obtain⟨m,S,W,z⟩:=aH3 q;refine aA (aC i rfl ?_);rw[S];refine jh i fun p h i=>iR i fun d h i=>?_;intro e U;refine jI i fun l h i=>?_;refine nF (by kernel_rfl) ?_;have H:=zg (k:=m) z;have N:Hs G h (aE p 0 [I m]::ckI C n D B P w l d e ((Cs m).map fun f=>[I f])::mk d ()::L):=by
  refine Hs.lU (B8 (fs:=Cs m) (a:=B0 n.kind) rfl H (by rw[S];rfl) ?_);exact i.to
 clear i;refine vd J z _ (ckJ C n D B P w l d e) _ _ h _ N ?_ ?_ ?_;intro x rest h M i;obtain⟨t,a,q,E,y,T⟩:=Ax i;clear i;cases t with
 |nil=>cases q
 |cons f t=>
  simp only[List.map_cons,List.cons.injEq] at q;obtain⟨rfl,rfl⟩:=q;have F:=E f List.mem_cons_self;refine rW (oW T) U ?_;refine fU T fun h i=>?_;refine an B i (l:=n.enc) rfl rfl (Iz F i fun h i=>?_);refine an D i (l:=C.enc) rfl rfl (Q4 hC F R i fun h i=>bX (eN (aZ (fun O=>?_) (fun O=>?_))));refine aD4 (p:=w) (n:=a) F (i.front (aE w 0 a.enc)) fun h i=>gM i fun h i=>?_;refine .inl ⟨rfl,B8 (fs:=t) (a:=aA3 a f (j2 n f)) rfl (fun g V=>E g (List.mem_cons_of_mem _ V)) ?_ i.to⟩;rw[<-y,mE,aKj O];refine ax i ?_;intro h i;refine gM i fun h i=> .inr ⟨rfl,?_⟩;refine Hs.qU (A:=fun a:aH=>sp [tX ((mE C n (Cs n.kind.toNat) (B0 n.kind)).1=false),gF Pr 228 (gI 1786) 41 e d l (.done,some (.exit 0)),aE D 0 C.enc,aE B 0 n.enc,aE P 0 [.bool false],aE w 0 a.enc]) a (tC ?_ i.to);rw[<-y,mE,aKi O]
 intro v j i;obtain⟨t,a,q,E,y,i⟩:=Ax i.lU;cases t with
 |cons f t=>cases q
 |nil=>
  rw[mE] at y;rw[<-y] at r;refine jL i fun j i=>jK ?_;refine aC i rfl (bX ?_);refine(bV (an w i (l:=a.enc) rfl rfl (an B i (l:=n.enc) rfl rfl (neN (aZ (fun u=>?_) (fun u=>?_))))));refine kG i fun j i=>iU ?_;have:=r j i.to;rwa [aKi (fun e=>u e.2)] at this;refine kG i fun j i=>iU ?_;have:=r j i.to;rwa [aKj ⟨rfl,by simpa using u⟩] at this
 intro v j i;obtain⟨a,i⟩:=Hs.tW i.lU;obtain⟨q,i⟩:=gH i;have i:=i.unpack;refine aEa i (by decide) fun j i=>Q3 rfl ?_;refine aC i rfl (bX ?_);refine(eZ (kG i fun j i=>iU ?_));have:=r j i.to;rwa [aKi (fun e=>by rw[q] at e;cases e.1)] at this;rw[aKi hC] at r ⊢;refine bA (aae (iU (r h i.to)));rw[aKi q] at r;exact r h i.to
end
end Go.Proofs.YtmhapehobfnoiaaGreatDoor.N
section
open Go Go.Ab
attribute [local irreducible] bG Br ld1 uF uG B4 mA uX lK P3 hQ mY qG pZ pS lH zE uE Uh Ty Oa Mr Rk Ol Md Ny Rn lN oT sF iV copyV iJ wV Tu U3 Gk kX Mb Qq Sb nL rR xM zA Cl zB Ro sM sC jS fL setLoop cH
namespace Go.Proofs.YtmhapehobfnoiaaGreatDoor
open Go Go.Ab Go.Hm Go.At Go.Mc
section
instance:Fx dB 2:=⟨fun _=>rfl,fun _=>rfl⟩
def vn (p:Int×Int->Bool):List (Int×Int)->Nat->Int
 |[],_=> -1
 |x::l,i=>if p x then(i:Int) else vn p l (i+1)
theorem Ke {p:Int×Int->Bool}:∀{l:List (Int×Int)} {i:Nat},(vn p l i= -1/\(∀x∈l,p x=false))\/∃j x,vn p l i=((i+j:Nat):Int)/\l[j]?=some x/\p x=true/\∀y∈l.take j,p y=false
 |[],i=> .inl ⟨rfl,fun _ h=>by cases h⟩
 |x::l,i=>by
  unfold vn;split;rename_i b;exact .inr ⟨0,x,by simp,rfl,b,fun _ h=>by cases h⟩;rename_i b;have b:p x=false:=by simpa using b
  rcases Ke (p:=p) (l:=l) (i:=i+1) with⟨d,e⟩|⟨j,y,d,e,f,g⟩;refine .inl ⟨d,fun z a=>?_⟩;rcases List.mem_cons.1 a with rfl|a;exact b;exact e z a;refine .inr ⟨j+1,y,by rw[d];congr 1;omega,by simpa using e,f,fun z a=>?_⟩;rw[List.take_succ_cons] at a;rcases List.mem_cons.1 a with rfl|a;exact b;exact g z a
def isG (g:Int) (x:Int×Int):Bool:=decide (x.1=g)
theorem Bi {g:Int} {l:List (Int×Int)}:(vn (isG g) l 0= -1/\mI l g=none)\/∃(j:Nat) (x:Int×Int),vn (isG g) l 0=(j:Int)/\l[j]?=some x/\mI l g=some x.2:=by
 rcases Ke (p:=isG g) (l:=l) (i:=0) with⟨b,a⟩|⟨j,x,b,a,d,f⟩;refine .inl ⟨b,?_⟩;unfold mI;rw[List.find?_eq_none.2 fun x o=>by have:=a x o;unfold isG at this;simpa using this];rfl;refine .inr ⟨j,x,by rw[b,Nat.zero_add],a,?_⟩;unfold mI;have:l.find? (fun x=>decide (x.1=g))=some x:=by
  rw[List.find?_eq_some_iff_append];refine⟨d,l.take j,l.drop (j+1),?_,fun y q=>by have:=f y q;unfold isG at this;simpa using this⟩;obtain⟨k,e⟩:=List.getElem?_eq_some_iff.1 a;rw[<-e,<-List.drop_eq_getElem_cons k,List.take_append_drop]
 rw[this];rfl
set_option maxRecDepth 100000
variable {G:Bg} {h:AH} {L L':List HP} {Q:Value->AH->Prop} {C:bN}
def yZ (C:bN) (s:jP) (a:Option Addr) (c:Nat):List Value:=[.bool s.lR,I s.bI,I s.at',.bool s.nO,I C.entries,I C.aQ,.slice a s.known.length c]
def kU (p:Nat) (C:bN) (s:jP):HP:=sB fun x:Option Addr×Nat=>sp [aE p 0 (yZ C s x.1 x.2),ls dB 2 266 x.1 x.2 s.known]
theorem lZ {p:Nat} {s:jP} (b:Hs G h (kU p C s::L)):∃a c,Hs G h (aE p 0 (yZ C s a c)::ls dB 2 266 a c s.known::L):=by
 obtain⟨⟨a,c⟩,b⟩:=b.tW;exact⟨a,c,b.zH⟩
theorem eG (p:Nat) (C:bN) (s:jP) {a:Option Addr} {c:Nat} {cs:List Value} {l:List (Int×Int)} {b L2:List HP} (f:Hs G h L) [m:Has (aE p 0) L cs b] [m2:Has (ls dB 2 266 a c) b l L2] (d:cs=yZ C s a c) (e:l=s.known):Hs G h (kU p C s::L2):=by
 subst d;subst e;exact Hs.qU (A:=fun x:Option Addr×Nat=>sp [aE p 0 (yZ C s x.1 x.2),ls dB 2 266 x.1 x.2 s.known]) (a,c) (Hs.pack (A:=[_,_]) (f.perm (m.perm.trans (m2.perm.cons _))))
theorem dh (hC:C.Ok) (d:Hs G h L) (g:∀p f,Hs G f (kU p C F2::L)->Q (.tuple ⟨[pt p 0 0,I 0]⟩) f):Cl Pr K 38 [I C.entries,I C.aQ] h Q:=by
 have b:=hC;unfold bN.Ok at b;refine cW (aS (aaa (mR (aaa (aS (aaa (mR (aaa ?_))))))));refine aN (c:=yZ C F2 none 0) rfl (dF d fun p h d=>g _ _ ?_);exact eG p C F2 (a:=none) (c:=0) ((mF (enc:=dB) (W:=2) (e:=266) d)) rfl rfl
theorem Ew {a:Option Addr} {c:Nat} {l:List (Int×Int)} (hb:l.length<=100) (i:Hs G h L) [m:Has (ls dB 2 266 a c) L l L']
  (g:∀b d f,Hs G f (ls dB 2 266 b d l::ls dB 2 266 a c l::L')->Q (.slice b l.length d) f):Cl Pr K 108 [.slice a l.length c] h Q:=
 cW (Bv (e:=266) (show Hs G h (dH 2 266 a c (l.length,eL dB l)::L') from m.of i) (by omega) g)
theorem Da {p:Nat} {s:jP} (hb:s.known.length<=100) (d:Hs G h L) [m:Has (kU p C) L s L'] (i:∀q e,Hs G e (kU q C s::kU p C s::L')->Q (pt q 0 0) e):Cl Pr K 77 [pt p 0 0] h Q:=by
 obtain⟨a,c,d⟩:=lZ (m.of d);refine cW (dD (bV (bW (aB (an p d (l:=yZ C s a c) rfl rfl (bM d fun q h d=>ax d fun h d=>?_))))));refine aB (aA (am p d rfl (Ew (a:=a) (c:=c) (l:=s.known) hb d fun f g h d=>aA (ay (b:=q) (o:=0) d fun h d=>i _ _ ?_))));have d:=eG p C s (a:=a) (c:=c) (d.cC (aE p 0 (yZ C s a c)) (ls dB 2 266 a c s.known)) rfl rfl;exact(eG q C s (a:=f) (c:=g) d rfl rfl)
def aAd (G:Bg) (f:Value) (A:HP) (p:Int×Int->Bool):Prop:=∀(x:Int×Int) (h:AH) (L:List HP) (Q:Value->AH->Prop),Hs G h (A::L)->(∀a,Hs G a (A::L)->Q (.bool (p x)) a)->zB Pr K f [.agg ⟨dB x⟩] h Q
theorem Te {f:Value} {A:HP} {p:Int×Int->Bool} (r:aAd G f A p) {a:Option Addr} {c:Nat} {l:List (Int×Int)} (hb:l.length<=1000) (b:Hs G h (A::ls dB 2 266 a c l::L))
  (o:∀j,Hs G j (A::ls dB 2 266 a c l::L)->Q (I (vn p l 0)) j):Cl Pr K 304 [.slice a l.length c,f] h Q:=by
 refine cW (bP ?_)
 have loop:∀(k i:Nat) (h:AH),i+k=l.length->vn p l 0=vn p (l.drop i) i->Hs G h (A::ls dB 2 266 a c l::L)->Dd 304 1 [] Q [(.slice a l.length c),f,(I l.length),(I i)] h:=by
  intro k;induction k with
  |zero=>
   intro i h t d b;rw[List.drop_of_length_le (by omega)] at d;refine bW (aS (aaa ?_));have:=o _ b;rw[d] at this;exact this
  |succ k v=>
   intro i h t d b;obtain⟨x,u,q⟩:=mB (l:=l) (i:=i) (by omega);rw[q,vn] at d;refine bW (aS (aae (bW (jV (l:=l) (a:=a) (c:=c) (enc:=dB) (e:=266) b (by decide) (by omega) (by rw[Int.toNat_natCast];exact u) (r x h _ _ b fun h b=>dG (fun g=>?_) (fun g=>?_))))));have:=o _ b;rw[d,aKj g] at this;exact this;rw[aKi (by rw[g];simp)] at d;exact bW (aad (v (i+1) h (by omega) d b))
 exact loop l.length 0 h (by omega) (by rw[List.drop_zero]) b
theorem aD7 {p:Nat} {g:Int}:aAd G (.func (.func 305) #[] #[pt p 0 0]) (aE p 0 [I g]) (isG g):=by
 intro x h L Q a d;refine rC rfl (cW (dF a fun q h a=>aA (am q a rfl (am p a rfl (bJ (d _ a.tail))))))
theorem L0 {p:Nat} {s:jP} {g:Int} (hb:s.known.length<=100) (d:Hs G h L) [m:Has (kU p C) L s L'] (f:∀e,Hs G e (kU p C s::L')->Q (I (vn (isG g) s.known 0)) e):Cl Pr K 264 [pt p 0 0,I g] h Q:=by
 obtain⟨a,c,d⟩:=lZ (m.of d);refine cW (dF d fun q h d=>aB (aA (am p d rfl ?_)));have d:Hs G h (aE q 0 [I g]::ls dB 2 266 a c s.known::aE p 0 (yZ C s a c)::L'):=d.to;refine Te aD7 (by omega) d fun h d=>f _ ?_;exact(eG p C s (a:=a) (c:=c) d rfl rfl).to
theorem fa {p:Nat} {s:jP} {w g:Int} (hb:s.known.length<=100) (d:Hs G h L) [m:Has (kU p C) L s L'] (f:∀u,Hs G u (kU p C s::L')->Q (.tuple ⟨[I (s.ask C w g).1,I (s.ask C w g).2]⟩) u):Cl Pr K 207 [pt p 0 0,I w,I g] h Q:=by
 obtain⟨a,c,d⟩:=lZ (m.of d);unfold jP.ask at f;have i:∀{h:AH},Hs G h (aE p 0 (yZ C s a c)::ls dB 2 266 a c s.known::L')->Hs G h (kU p C s::L'):=fun d=>eG p C s (a:=a) (c:=c) d rfl rfl;refine cW (dD (bV (bW (aS (aZ (fun v=>?_) (fun v=>aB (aA (am p d rfl (dR (aZ (fun y=>?_) (fun y=>aS (aZ (fun z=>?_) (fun z=>mR (aZ (fun A=>?_) (fun A=>?_)))))))))))))));rw[aab] at f;exact f _ (i d);rw[aab] at f;exact f _ (i d);rw[aab] at f;exact f _ (i d);rw[aab] at f;exact f _ (i d);rw[aac] at f;refine bW (L0 (C:=C) hb (i d) fun h d=>aS (aZ (fun B=>?_) (fun B=>?_)));rcases Bi (g:=g) (l:=s.known) with⟨q,k⟩|⟨j,x,q,k,t⟩;rw[k] at f;exact f _ d;omega;rcases Bi (g:=g) (l:=s.known) with⟨q,k⟩|⟨j,x,q,k,t⟩;omega;rw[t] at f;rw[q];obtain⟨a,c,d⟩:=lZ d;refine bW (aB (aA (am p d rfl (oy (l:=s.known) (a:=a) (c:=c) (enc:=dB) (e:=266) d (by omega) (by rw[Int.toNat_natCast];exact k) rfl (ag (dG (fun r=>?_) (fun r=>?_)))))));simp only[r,if_true] at f;exact f _ (eG p C s (a:=a) (c:=c) d rfl rfl);simp only[r] at f;exact f _ (eG p C s (a:=a) (c:=c) d rfl rfl)
theorem To {p:Nat} {s:jP} {g:Int} (hC:C.Ok) (hb:s.known.length<=100) (d:Hs G h L) [m:Has (kU p C) L s L'] (e:∀t,Hs G t (kU p C (s.begin C g).1::L')->Q (.tuple ⟨[I (s.begin C g).2.1,I (s.begin C g).2.2]⟩) t):Cl Pr K 266 [pt p 0 0,I g] h Q:=by
 have y:=hC.2.1.2;obtain⟨a,c,d⟩:=lZ (m.of d);unfold jP.begin at e;have f:∀{h:AH},Hs G h (aE p 0 (yZ C s a c)::ls dB 2 266 a c s.known::L')->Hs G h (kU p C s::L'):=fun d=>eG p C s (a:=a) (c:=c) d rfl rfl;refine cW (dD (bV (bW (aS (aZ (fun u=>?_) (fun u=>aB (aA (am p d rfl (dR (aZ (fun v=>?_) (fun v=>?_)))))))))));rw[aac] at e;exact e _ (f d);rw[aac] at e;exact e _ (f d);rw[aab] at e;refine bW (L0 (C:=C) hb (f d) fun h d=>dR (aZ (fun w=>?_) (fun w=>?_)));rcases Bi (g:=g) (l:=s.known) with⟨k,i⟩|⟨j,x,k,i,r⟩;omega;rw[r] at e;exact e _ d;rcases Bi (g:=g) (l:=s.known) with⟨k,i⟩|⟨j,x,k,i,r⟩;rw[i] at e;simp only[Option.isSome_none,Bool.false_eq_true,if_false] at e;obtain⟨a,c,d⟩:=lZ d;refine bW (aB (aA (aA (am p d rfl (dG (fun q=>?_) (fun q=>?_))))));simp only[q,if_true] at e;exact e _ (eG p C s (a:=a) (c:=c) d rfl rfl);simp only[q,Bool.false_eq_true,if_false] at e;refine bW (vQ (by omega) (aI rfl (aI rfl (bA (aaa (bW (aN (c:=[.bool true,I g,I (g/4),.bool false]) rfl (aB (aA (ay (b:=p) (o:=0) d fun h d=>e _ ?_))))))))));exact eG p C (s.start g) (a:=a) (c:=c) d rfl rfl;omega
end
section
theorem aCp (m:Nat):(dY [I 0,I 0] m).length=m*2/\(dY [I 0,I 0] m).all eJ=true:=by
 have:dY [I 0,I 0] m=eL dB (List.replicate m (0,0)):=by
  induction m with
  |zero=>rfl
  |succ m a=>rw[List.replicate_succ,pQ,<-a];rfl
 rw[this];exact⟨by rw[Ac,List.length_replicate],Fy⟩
set_option maxRecDepth 100000
variable {G:Bg} {h:AH} {L L':List HP} {Q:Value->AH->Prop} {C:bN}
theorem X4 {a:Option Addr} {c:Nat} {l:List (Int×Int)} (q:0<l.length) (d:Hs G h L) [m:Has (ls dB 2 266 a c) L l L']
  (y:∀k,Hs G k (ls dB 2 266 a c (l.drop 1)::L')->Q (.slice a (l.drop 1).length c) k):Cl Pr K 321 [.slice a l.length c,I 0,I 1] h Q:=by
 have d:Hs G h (dH 2 266 a c (l.length,eL dB l)::L'):=m.of d
 have f:l.length<=c:=by
  obtain⟨r,A,⟨_,_,z⟩,_⟩:=d.fst;rcases z with⟨j,_⟩|⟨j,_⟩|⟨f,_⟩;simp only at j;omega;simp only at j;omega;exact f
 obtain⟨b,o,x,_⟩:=d.oZ q
 refine cW (bP ?_)
 refine yC (v:= .slice (some ⟨b,o+0*2,none⟩) (0+1 - 0) (l.length - 0)) ?_ ?_
 .subst x;have t:lS (some (I l.length)) c c=some l.length:=by simp only[lS];rw[aac];simp
  have u:lS (some (I 1)) l.length l.length=some 1:=by simp only[lS];rw[aac];rfl
  have w:lS (some (I 0)) 0 1=some 0:=by simp only[lS];rw[aac];rfl
  have g:¬l.length=0:=by omega
  simp only[wV,t,u,w,Option.isNone_some,Bool.false_and,Option.isSome_none,Bool.false_eq_true,if_false,g,dA]
  rw[aac]
 refine bJ (aaa (bW (bP (bE d ?_))))
 intro r h d
 refine aBt (i:=0) (by decide) rfl rfl q d ?_
 intro h d
 have e:(eL dB l).take (0*2)++(eL dB l).drop ((0+1)*2)=eL dB (l.drop 1):=by rw[Q8];simp
 rw[e] at d
 have:=y h
 rw[List.length_drop] at this
 refine this ?_
 unfold ls
 rw[List.length_drop]
 exact d.to
theorem mr {p:Nat} {s:jP} {x:Int×Int} (hC:C.Ok) (hb:s.known.length<=100) (d:Hs G h L) [m:Has (kU p C) L s L'] (g:∀u,Hs G u (kU p C (s.Ar C x)::L')->Q (.tuple ⟨[]⟩) u):Cl Pr K 281 [pt p 0 0,.agg ⟨dB x⟩] h Q:=by
 have w:1<=C.entries/\C.entries<=8:=hC.2.2.2.2.2.1;obtain⟨a,c,d⟩:=lZ (m.of d);unfold jP.Ar at g;refine cW (dF d fun q h d=>bE d fun y h d=>?_);refine aB (aA (am p d rfl (bP (aB (aA (am p d rfl (dR (aZ (fun t=>?_) (fun t=>?_)))))))));rw[aKj t] at g;refine bW (aB (aA (am p d rfl (X4 (a:=a) (c:=c) (l:=s.known) (by omega) d fun h d=>?_))));refine aB (aA (ay (b:=p) (o:=0) d fun h d=>bE d fun v h d=>aB (aA (am p d rfl (an q d (l:=dB x) rfl rfl (aN (c:=dB x) rfl (kD (i:=6) (N:=11) (D:=[]) d rfl rfl rfl rfl rfl fun f h d=>?_)))))));refine kL (enc:=dB) (W:=2) (e:=266) (a:=a) (c:=c) (l:=s.known.drop 1) (a2:=some f) (c2:=1) (l2:=[x]) (show Hs G h (ls dB 2 266 (some f) 1 [x]::_) from d) (by simp;omega) fun j k h d=>?_;refine aB (aA (ay (b:=p) (o:=0) d fun h d=>cZ dJ (g _ ?_)));exact(eG p C {s with known:=s.known.drop 1++[x]} (a:=j) (c:=k) d rfl rfl).to;rw[aKi t] at g;refine bE d fun v h d=>aB (aA (am p d rfl (an q d (l:=dB x) rfl rfl (aN (c:=dB x) rfl (kD (r:=v) (i:=6) (N:=11) (D:=[]) d rfl rfl rfl rfl rfl fun f h d=>?_)))));refine kL (enc:=dB) (W:=2) (e:=266) (a:=a) (c:=c) (l:=s.known) (a2:=some f) (c2:=1) (l2:=[x]) (show Hs G h (ls dB 2 266 (some f) 1 [x]::_) from d) (by simp;omega) fun j k h d=>?_;refine aB (aA (ay (b:=p) (o:=0) d fun h d=>cZ dJ (g _ ?_)));exact(eG p C {s with known:=s.known++[x]} (a:=j) (c:=k) d rfl rfl).to
theorem dt {p:Nat} {s:jP} {at' w:Int} (hC:C.Ok) (hb:s.known.length<=100) (H:0<=s.bI/\s.bI<C.aQ) (R:0<=w/\w<=1000000) (d:Hs G h L) [m:Has (kU p C) L s L']
  (f:∀l,Hs G l (kU p C (s.walked C at' w).1::L')->Q (.tuple ⟨[I (s.walked C at' w).2.1,.bool (s.walked C at' w).2.2.1,I (s.walked C at' w).2.2.2]⟩) l):Cl Pr K 221 [pt p 0 0,I at',I w] h Q:=by
 have P:=hC.2.1
 obtain⟨a,c,d⟩:=lZ (m.of d)
 unfold jP.walked at f
 have t:∀{h:AH},Hs G h (aE p 0 (yZ C s a c)::ls dB 2 266 a c s.known::L')->Hs G h (kU p C s::L'):=fun d=>eG p C s (a:=a) (c:=c) d rfl rfl
 refine cW (dD (bV (bW (aB (aA (aA (am p d rfl (bX (eN (dG (fun y=>?_) (fun y=>?_)))))))))))
 rotate_left
 .rw[aKj y] at f;exact f _ (t d)
 rw[aKi (by rw[y];simp)] at f
 refine bW (aB (aA (aA (am p d rfl (bA (aZ (fun z=>?_) (fun z=>?_)))))))
 .rw[aKj z] at f;exact f _ (t d)
 rw[aKi z] at f
 refine bW (aB (aA (aA (am p d rfl (vQ (by omega) (aI rfl (aI rfl (bA (aaa (bW (aB (aA (aA (am p d rfl (dG (fun A=>?_) (fun A=>?_))))))))))))))))
 .rw[aKj A] at f;refine bW (aB (aA (aA (ay (b:=p) (o:=0) d fun h d=>aB (aA (aA (ay (b:=p) (o:=0) d fun h d=>f _ ?_)))))));exact eG p C s.fresh (a:=a) (c:=c) d rfl rfl
 rw[aKi (by rw[A];simp)] at f
 refine bW (bE d fun T h d=>aB (aA (am p d rfl (aB (aA (aA (am p d rfl (my (n:=C.aQ) (g:=s.bI) ⟨P,H⟩ R d fun h d=>?_))))))))
 generalize iT C.aQ s.bI at' w=r at f
 obtain⟨nx,x,S,e⟩:=r
 simp only at f ⊢
 refine aI rfl (aI rfl (aI rfl (aI rfl (kQ (i:=17) (n:=22) (D:=[]) d rfl rfl fun j h d=>ax (b:=j) d fun h d=>cZ (aI rfl aGu) (cZ (aI rfl jA) (bA (aZ (fun B=>?_) (fun B=>?_))))))))
 .rw[aKj B] at f;exact f _ (t d.to)
 rw[aKi B] at f
 have k:∀{h:AH} {M:List HP} (v:Int) (u:jP),[Sub M L']->yZ C u a c=dS (yZ C s a c) 2 [I v]->u.known=s.known->Hs G h (aE p 0 (yZ C s a c)::ls dB 2 266 a c s.known::M)->(∀l,Hs G l (kU p C u::L')->Q (.tuple ⟨[I v,.bool false,I 0]⟩) l)->Dd 221 10 [] Q [(pt p 0 0),(I v)] h:=by
  intro h M v u _ O J d N;refine bW (aB (aA (aA (ay (b:=p) (o:=0) d fun h d=>N _ ?_))));have:=eG p C u (a:=a) (c:=c) d O.symm J.symm;exact this.to
 have q:∀{h:AH},Hs G h (aE j 0 x.enc::aE p 0 (yZ C s a c)::ls dB 2 266 a c s.known::L')->(∀l,Hs G l (kU p C (s.Ar C (s.bI,x.owner)).done::L')->Q (.tuple ⟨[I 0,.bool true,I 0]⟩) l)->Dd 221 11 [] Q [(pt p 0 0),(pt j 0 0)] h:=by
  intro h d N;refine bW (bE d fun U h d=>aB (aA (aA (am p d rfl (aA (am j d rfl (aN (c:=dB (s.bI,x.owner)) rfl ?_)))))));have d:=eG p C s (a:=a) (c:=c) d rfl rfl;refine mr hC hb d fun h d=>?_;obtain⟨a3,c3,d⟩:=lZ d;refine aN (c:=[.bool false,I 0,I 0,.bool false]) rfl (aB (aA (ay (b:=p) (o:=0) d fun h d=>N _ ?_)));exact(eG p C (s.Ar C (s.bI,x.owner)).done (a:=a3) (c:=c3) d rfl rfl).to
 have d:Hs G h (aE j 0 x.enc::aE p 0 (yZ C s a c)::ls dB 2 266 a c s.known::L'):=d.to
 refine bW (dG (fun E=>?_) (fun E=>?_))
 .subst E;refine aA (am j d rfl (dG (fun F=>?_) (fun F=>?_)))
  .rw[aKj ⟨rfl,F⟩] at f;exact bW (bX (eZ (k (M:=aE j 0 x.enc::L') (s.bI/4) (s.goto (s.bI/4)) rfl rfl d.to f)))
  .rw[aKi (by rw[F];simp),aKi (by simp)] at f;exact bW (bX (bV (q d f)))
 .subst E;rw[aKi (by simp),aKj rfl] at f;exact bX (eZ (k (M:=aE j 0 x.enc::L') nx (s.goto nx) rfl rfl d.to f))
def qA (g:Int) (x:Int×Int):Bool:=decide (g= -1\/x.1=g)
theorem da {p q:Nat} {g:Int}:aAd G (.func (.func 284) #[] #[pt p 0 0]) (sp [aE p 0 [.func (.func 282) #[] #[pt q 0 0]],aE q 0 [I g]]) (qA g):=by
 intro x h L Q a i;have a:=a.zH;have d:∀{h:AH} {M:List HP} {b:Bool},[Sub M L]->b=qA g x->Hs G h (aE p 0 [.func (.func 282) #[] #[pt q 0 0]]::aE q 0 [I g]::M)->Q (.bool b) h:=by
  intro h M b _ f a;show Q _ _;rw[f];exact i _ (Hs.yS a.to)
 refine rC rfl (cW (dF a fun r h a=>am p a rfl (aA (am r a rfl ?_))));refine rC rfl (cW (am q a rfl (bJ (aZ (fun e=>?_) (fun e=>am q a rfl (bJ ?_))))));exact d (M:=aE r 0 (dB x)::L) (by unfold qA;rw[decide_eq_true (.inl e)]) a.to;exact d (M:=aE r 0 (dB x)::L) (by unfold qA;exact decide_eq_decide.2 (by omega)) a.to
theorem V6 {f:Value} {A:HP} {p:Int×Int->Bool} (P:aAd G f A p) {a:Option Addr} {c:Nat} {l:List (Int×Int)} (hb:l.length<=1000) (d:Hs G h (A::ls dB 2 266 a c l::L))
  (F:∀O,Hs G O (A::ls dB 2 266 a c (l.filter fun x=> !p x)::L)->Q (.slice a (l.filter fun x=> !p x).length c) O):Cl Pr K 283 [.slice a l.length c,f] h Q:=by
 refine cW (Te P hb d fun h d=>?_)
 rcases Ke (p:=p) (l:=l) (i:=0) with⟨B,r⟩|⟨j,x,B,r,T,U⟩
 .rw[B];have W:l.filter (fun x=> !p x)=l:=List.filter_eq_self.2 fun x hx=>by rw[r x hx];rfl
  rw[W] at F
  exact bJ (aae (F _ d))
 rw[B]
 have Z:=(List.getElem?_eq_some_iff.1 r).1
 refine bJ (aaa (bW (aad ?_)))
 have loop:∀(k i:Nat) (m:List (Int×Int)) (h:AH),i+k=l.length->m.length<i->m=(l.take i).filter (fun x=> !p x)->∀t:List (Int×Int),(m++t).length=i->Hs G h (A::ls dB 2 266 a c (m++t++l.drop i)::L)->
   Dd 283 2 [] Q [(.slice a l.length c),f,(I m.length),(I i)] h:=by
  intro k
  induction k with
  |zero=>
   intro i m h X hm u t q d
   have v:i=l.length:=by omega
   refine bW (bP (aS (aaa (bW ?_))))
   rw[v,List.take_length] at u
   rw[v,List.drop_length,List.append_nil] at d
   have d:Hs G h (dH 2 266 a c ((m++t).length,eL dB (m++t))::A::L):=d.lU
   have H:(m++t).length=l.length:=by omega
   rw[<-H]
   refine aFq (n:=(m++t).length) (i:=m.length) (e:=266) (cs:=eL dB (m++t)) (by decide) aCp (by omega) d fun h d=>?_
   have:=F h
   rw[<-u] at this
   refine this ?_
   rw[Y2,List.take_left] at d
   exact d.lU
  |succ k R=>
   intro i m h X hm u t q d
   obtain⟨y,J,E⟩:=mB (l:=l) (i:=i) (by omega)
   have g:(m++t++l.drop i).length=l.length:=by rw[List.length_append,q,List.length_drop];omega
   have N:(m++t++l.drop i)[i]?=some y:=by rw[List.getElem?_append_right (by omega),q,Nat.sub_self,E];rfl
   have w:l.take (i+1)=l.take i++[y]:=by rw[List.take_add_one,J];rfl
   refine bW (bP (aS (aae (bW ?_))))
   rw[<-g]
   refine jV (l:=m++t++l.drop i) (a:=a) (c:=c) (enc:=dB) (e:=266) d (by decide) (by omega) (by rw[Int.toNat_natCast];exact N) (bM d fun S h d=>ax d fun h d=>an S d (l:=dB y) rfl rfl ?_)
   refine P y h _ _ (d.front A) fun h d=>bX (eN (dG (fun D=>?_) (fun D=>?_)))
   .refine bW (aad ?_);have:=R (i+1) m h (by omega) (by omega) (by rw[w,List.filter_append,<-u];simp[D]) (t++[y]) (by simp at q ⊢;omega);rw[g];refine this ?_;rw[show m++(t++[y])++l.drop (i+1)=m++t++l.drop i by rw[E];simp];exact d.to
   .refine bW (an S d (l:=dB y) rfl rfl ?_);refine Q5 (l:=m++t++l.drop i) (a:=a) (c:=c) (enc:=dB) (e:=266) (y:=y) d (by decide) (by omega) (by omega) fun h d=>?_;cases t with
    |nil=>simp at q;omega
    |cons z t=>
     refine aad (aad ?_)
     have:=R (i+1) (m++[y]) h (by omega) (by simp;omega) (by rw[w,List.filter_append,<-u];simp[D]) (t++[y]) (by simp at q ⊢;omega)
     rw[List.length_append] at this
     rw[g]
     refine this ?_
     have V:(m++z::t++l.drop i).set ((m.length:Int)).toNat y=m++[y]++(t++[y])++l.drop (i+1):=by
      rw[Int.toNat_natCast,E,List.append_assoc,List.set_append_right _ _ (Nat.le_refl _),Nat.sub_self];simp
     rw[<-V]
     exact d.to
 have:=loop (l.length - (j+1)) (j+1) (l.take j) h (by omega) (by rw[List.length_take];omega) ?_ [x] ?_ ?_
 .rw[List.length_take,Nat.min_eq_left (by omega)] at this;rw[Nat.zero_add];exact this
 .rw[List.take_add_one,r,List.filter_append];rw[List.filter_eq_self.2 fun y J=>by rw[U y J];rfl];simp[T]
 .simp;omega
 .rw[show l.take j++[x]++l.drop (j+1)=l by
   obtain⟨Y,ex⟩:=List.getElem?_eq_some_iff.1 r;rw[<-ex,List.append_assoc,List.singleton_append,<-List.drop_eq_getElem_cons Y,List.take_append_drop]]
  exact d
end
section
set_option maxRecDepth 100000
variable {G:Bg} {h:AH} {L L':List HP} {Q:Value->AH->Prop} {C:bN}
theorem Yd {p:Nat} {s:jP} {g:Int} (hb:s.known.length<=100) (d:Hs G h L) [m:Has (kU p C) L s L']
  (e:∀n u,Hs G u (kU p C (s.drop C g).1::L')->Q (.tuple ⟨[I n,I (s.drop C g).2]⟩) u):Cl Pr K 223 [pt p 0 0,I g] h Q:=by
 obtain⟨a,c,d⟩:=lZ (m.of d)
 unfold jP.drop at e
 have i:∀{h:AH} {M:List HP},[Sub M L']->Hs G h (aE p 0 (yZ C s a c)::ls dB 2 266 a c s.known::M)->Hs G h (kU p C s::L'):=fun d=>(eG p C s (a:=a) (c:=c) d rfl rfl).to
 refine cW (dF d fun q h d=>dD (bV (bW (bE d fun r h d=>am q d rfl (aS (aZ (fun v=>?_) (fun v=>?_)))))))
 .rw[aKj (.inl v)] at e;exact e _ _ (i (M:=aE q 0 [I g]::L') d.to)
 refine am q d rfl (aB (aA (am p d rfl (dR (aZ (fun w=>?_) (fun w=>?_))))))
 .rw[aKj (.inr w)] at e;exact e _ _ (i (M:=aE q 0 [I g]::L') d.to)
 rw[aab] at e
 dsimp only at e
 refine bW (bM d fun p1 h d=>ax (b:=p1) d fun h d=>aB (aA (am p d rfl (bP (aB (aA (am p d rfl ?_)))))))
 have d:=d.cC (aE p1 0 [.func (.func 282) #[] #[pt q 0 0]]) (aE q 0 [I g])
 have d:=d.yS
 have d:=d.cC (sp [aE p1 0 [.func (.func 282) #[] #[pt q 0 0]],aE q 0 [I g]]) (ls dB 2 266 a c s.known)
 refine V6 (da (p:=p1) (q:=q) (g:=g)) (by omega) d fun h d=>?_
 have d:=d.zH
 refine aB (aA (ay (b:=p) (o:=0) d fun h d=>bE d fun A h d=>aB (aA (aA (am p d rfl ?_)))))
 have z:s.known.filter (fun x=> !qA g x)=s.known.filter (fun x=> !decide (g= -1\/x.1=g)):=rfl
 have tail:∀{h:AH} {M:List HP} (st:Bool),[Sub M L']->Hs G h (aE p 0 [.bool s.lR,I s.bI,I s.at',.bool st,I C.entries,I C.aQ,.slice a (s.known.filter fun x=> !qA g x).length c]::ls dB 2 266 a c (s.known.filter fun x=> !qA g x)::M)->
   st=(s.nO||(s.lR&&decide (g= -1\/s.bI=g)))->∀n:Int,Q (.tuple ⟨[I n,I 0]⟩) h:=by
  intro h M st _ d t n
  refine e n h ?_
  rw[<-t]
  have:=eG p C {s with known:=s.known.filter fun x=> !qA g x,nO:=st} (a:=a) (c:=c) d rfl rfl
  exact(show Hs G h (kU p C {s with known:=s.known.filter (fun x=> !decide (g= -1\/x.1=g)),nO:=st}::M) from this).to
 refine dG (fun j=>?_) (fun j=>?_)
 .refine am p1 d rfl (aB (aA (aA (am p d rfl ?_))));refine rC rfl (cW (am q d rfl (bJ ?_)));have go:∀{b:Bool},b=decide (g= -1\/s.bI=g)->Br (.bool b) (Dd 223 3 [] Q [(pt p 0 0),(I s.known.length)] h) (bG (mY (pt p 0 0)) fun v26=>bG (hQ 6 v26) fun v27=>bG (ld1 h v27) fun v28=>bG (lH v28) fun v29=>bG (uE .sub (I s.known.length) v29) fun v30=>Q (.tuple ⟨[v30,(I 0)]⟩) h):=by
   intro b f;have l:=List.length_filter_le (fun x=> !qA g x) s.known;refine dG (fun k=>?_) (fun k=>?_);refine bW (aB (aA (aA (ay (b:=p) (o:=0) d fun h d=>aB (aA (am p d rfl (bP (xP (by omega) ?_))))))));refine tail (M:=aE p1 0 [.func (.func 282) #[] #[pt q 0 0]]::aE q 0 [I g]::L') true (d.sg (b:=p) (o:=0) (c:=[.bool s.lR,I s.bI,I s.at',.bool true,I C.entries,I C.aQ,.slice a (s.known.filter fun x=> !qA g x).length c]) rfl).to ?_ _;rw[<-f,k,j];simp;refine aB (aA (am p d rfl (bP (xP (by omega) ?_))));refine tail (M:=aE p1 0 [.func (.func 282) #[] #[pt q 0 0]]::aE q 0 [I g]::L') s.nO (d.sg (b:=p) (o:=0) (c:=[.bool s.lR,I s.bI,I s.at',.bool s.nO,I C.entries,I C.aQ,.slice a (s.known.filter fun x=> !qA g x).length c]) rfl).to ?_ _;rw[<-f,k,j];simp
  refine aZ (fun y=>go (by rw[decide_eq_true (.inl y)])) (fun y=>am q d rfl (bJ (go (decide_eq_decide.2 (by omega)))))
 .have l:=List.length_filter_le (fun x=> !qA g x) s.known;refine aB (aA (am p d rfl (bP (xP (by omega) ?_))));refine tail (M:=aE p1 0 [.func (.func 282) #[] #[pt q 0 0]]::aE q 0 [I g]::L') s.nO (d.sg (b:=p) (o:=0) (c:=[.bool s.lR,I s.bI,I s.at',.bool s.nO,I C.entries,I C.aQ,.slice a (s.known.filter fun x=> !qA g x).length c]) rfl).to ?_ _;rw[j];simp
def Cr (q:Nat) (l:List (Int×Int)):HP:=sB fun x:Option Addr×Nat=>sp [aE q 0 [.slice x.1 l.length x.2],ls dB 2 266 x.1 x.2 l]
theorem Ow {p:Nat} {s:jP} (hb:s.known.length<=100) (d:Hs G h L) [m:Has (kU p C) L s L'] (i:∀q g,Hs G g (Cr q s.known::kU p C s::L')->Q (.func (.func 109) #[] #[pt q 0 0]) g):Cl Pr K 54 [pt p 0 0] h Q:=by
 obtain⟨a,c,d⟩:=lZ (m.of d);refine cW (bM d fun q h d=>K6 (eZ (bW (aB (aA (am p d rfl (Ew (a:=a) (c:=c) (l:=s.known) hb d fun e f h d=>ax (b:=q) d fun h d=>i q _ ?_)))))));have d:=eG p C s (a:=a) (c:=c) (d.cC (aE p 0 (yZ C s a c)) (ls dB 2 266 a c s.known)) rfl rfl;have d:=d.cC (aE q 0 [.slice e s.known.length f]) (ls dB 2 266 e f s.known);exact Hs.qU (A:=fun x:Option Addr×Nat=>sp [aE q 0 [.slice x.1 s.known.length x.2],ls dB 2 266 x.1 x.2 s.known]) (e,f) d.yS
theorem Y6 {q:Nat} {l:List (Int×Int)} (hb:l.length<=1000):Xn Pr K G 109 [] [pt q 0 0] (Cr q l) (l.map dB):=by
 intro k J y L h Q d F u w;obtain⟨⟨a,c⟩,d⟩:=d.tW;have d:=d.zH;have g:∀{h:AH} {M:List HP},Hs G h (aE q 0 [.slice a l.length c]::ls dB 2 266 a c l::M)->Hs G h (Cr q l::M):=fun d=>Hs.qU (A:=fun x:Option Addr×Nat=>sp [aE q 0 [.slice x.1 l.length x.2],ls dB 2 266 x.1 x.2 l]) (a,c) d.yS;refine cW (am q d rfl (bP ?_));have loop:∀(f i:Nat) (h:AH),i+f=l.length->Hs G h (aE q 0 [.slice a l.length c]::ls dB 2 266 a c l::k ((l.drop i).map dB)::L)->Dd 109 1 [] Q [y,(.slice a l.length c),(I l.length),(I i)] h:=by
  intro f;induction f with
  |zero=>
   intro i h B d;rw[List.drop_of_length_le (by omega)] at d;exact bW (aS (aaa (u _ _ (g d))))
  |succ f H=>
   intro i h B d;obtain⟨x,E,z⟩:=mB (l:=l) (i:=i) (by omega);rw[z,List.map_cons] at d;refine bW (aS (aae (bW (jV (l:=l) (a:=a) (c:=c) (enc:=dB) (e:=266) d (by decide) (by omega) (by rw[Int.toNat_natCast];exact E) (bM d fun r h d=>ax d fun h d=>aA (am r d rfl (aA (am r d rfl ?_))))))));refine(F _ _ h _ (d.front (k (dB x::((l.drop (i+1)).map dB))))).mono fun v t D=>?_;rcases D with⟨rfl,j⟩|⟨rfl,j⟩;exact bX (bV (bW (aad (H (i+1) t (by omega) j.to))));exact bX (eZ (w _ _ (g j.to)))
 exact loop l.length 0 h (by omega) (by rw[List.drop_zero];exact d)
end
end Go.Proofs.YtmhapehobfnoiaaGreatDoor
end
