/- A part of the proof. -/
import Derived.Test.YtcjlkjeeifemhaaGreatDoorR18
import Derived.Lay
import Derived.LaidOnce
import Derived.ChangeMaps5
namespace Go.Proofs.YtcjlkjeeifemhaaGreatDoor
open Go Go.Ab Go.Hm Go.Is Go.At Go.Mc Go.RowKit
section
set_option maxRecDepth 100000 in
theorem Eg (os:Os) (started:os.Started) (H:Type) (enc:TypeId×Value->H):
  ReturnsInHanded {} Tryz.checked os 4 .any (fun w a=>(Rows.scriptRunsSpec.pre enc Tryz.prog Tryz.f4 [] false w a/\laidMetH Tryz.prog Rows.scriptRunsRow.laid w)/\sizedMet enc Tryz.prog Tryz.f4 (OpenSpec.ofChange Rows.scriptRunsSpec) false w a)
   (Rows.scriptRunsSpec.post enc Tryz.prog Tryz.f4 false true false false):=by
 refine Kt (C:=Tryz.checked) started own (by kernel_rfl) Tryz.func4 laidOut (by kernel_rfl) rfl Tryz.underlying4 rfl (fun f l=>by
   match f,l with
   |[d1],_=>rfl)
  (ChangeSpec.witness_shaped (enc:=enc) (C:=Tryz.checked) (os:=os) (X:=fun w _=>laidMetH Tryz.prog Rows.scriptRunsRow.laid w) false (World.laidAll Tryz.prog os Rows.scriptRunsRow.laid) #[.agg #[.int .i64 0,.int .i64 0,.int .i64 0,.int .i64 0,.int .i64 0,.int .i64 0,.int .i64 0,.slice none 0 0,.slice none 0 0,.slice none 0 0,.slice none 0 0,.slice none 0 0]] 8 (World.laidAll_os _ _ _)
   (World.shaped_of_ZipB (by kernel_rfl) (by kernel_rfl)) (by kernel_rfl) (by kernel_rfl) (by kernel_rfl)
   (by rw[MakeChecks.laidMetH_plain _ _ _ (by kernel_rfl)];exact laidMet_laidAll _ (by kernel_rfl) (by kernel_rfl))) ?_
 intro W e a f ps hA b k
 rw[show(Tryz.f4.params.toList)=[38] from by rw[Tryz.params4]] at hA
 rw[Tryz.params4] at b
 obtain⟨v0,r,g,i,K,O,rfl,rfl,rfl,j,q⟩:=ChangeShapes.trodAll_cons hA
 obtain⟨rfl,rfl,rfl⟩:=ChangeShapes.trodAll_nil q
 obtain⟨C,u,F,A,x,J,cW,t,E,z,v,I,B,s,D,cD,rfl,hR⟩:=Gx (b 0 _ v0 rfl rfl) j
 have d:Gl W:=aEh (by kernel_rfl) k (by simp[Rows.scriptRunsRow]) (by simp[Rows.scriptRunsRow]) (by simp[Rows.scriptRunsRow]) (by simp[Rows.scriptRunsRow]) (by simp[Rows.scriptRunsRow]) (by simp[Rows.scriptRunsRow]) (by simp[Rows.scriptRunsRow]) (by simp[Rows.scriptRunsRow])
 exact La d hR (fun c=>[c]) (fun ρ c y h=>aR.cons h aR.nil) fun G h pv wv ov vv dv ps ws os vs dl n hG d hA p o=>M8 n hG d hA o fun _=>rfl
set_option maxRecDepth 100000
theorem Ni:(Rows.scriptRunsRow.inPlace==Tryz.prog.inPlace 4)=true:=by kernel_rfl
theorem Nk:(Rows.scriptRunsRow.unfollowed==Tryz.prog.unfollowed 4)=true:=by kernel_rfl
theorem No:(Rows.scriptRunsRow.recurses==Tryz.prog.recurses 4)=true:=by kernel_rfl
theorem Nd:(Rows.scriptRunsRow.named==Tryz.prog.varsNamed 4)=true:=by kernel_rfl
theorem Hq:false=Rows.scriptRunsRow.goesBy Tryz.prog:=by kernel_rfl
theorem vX:Tryz.prog.funcNamed "donjon/donjonlaw20.ScriptRuns"=some 4:=by kernel_rfl
theorem E5:joinedFacts Tryz.prog 4 Tryz.f4 Rows.scriptRunsSpec Rows.scriptRunsRow=true:=
 (fB (fB (fB (fB (fB (fB (fB (fB (fB (fB (fB (fB (fB (fB (fB (fB (fB (fB (fB (fB (fB (fB (fB (fB (fB (fB (fB (fB (fB (fB (fB (by kernel_rfl) laidOut) wu) (by kernel_rfl)) (by kernel_rfl)) (by kernel_rfl)) ff) (by kernel_rfl)) ew) Ni) Nk) No) Nd) (by kernel_rfl)) (by kernel_rfl)) (by kernel_rfl)) (by kernel_rfl)) (by kernel_rfl)) (by kernel_rfl)) (by kernel_rfl)) (by kernel_rfl)) (by kernel_rfl)) fu) (by kernel_rfl)) fx) ep) fe) xe) (by kernel_rfl)) (by kernel_rfl)) (by kernel_rfl)) (by kernel_rfl))
theorem Hy:Rows.scriptRunsRow.holds Tryz.pinned (OpenSpec.ofChange Rows.scriptRunsSpec):=
 OpenClaim.holds_of_wide 4 Tryz.f4 rfl rfl rfl rfl rfl rfl rfl ⟨rfl,rfl,rfl,rfl,rfl⟩ rfl rfl rfl rfl rfl vX Tryz.func4 E5
  (of_decide_eq_true (by kernel_rfl)) (by unfold Func.isWrapper;first|(rw[aNa (by decide+kernel)];kernel_rfl)|(rw[aN9 (by decide+kernel)];exact⟨rfl,rfl⟩))
  (fun os started H enc _=>Eg os started H enc)
theorem scriptRuns_proved:Rows.ScriptRunsCardSaid:=
 Claim7.holds_tied_plain_at .later [] Rows.scriptRunsCard.laidKinds true Rows.scriptRunsCard.stood.harness true
  Hy (fun _ h=>by cases h) (by kernel_rfl) (fun _ h=>by cases h) scriptRuns_row_tie rfl ⟨rfl,rfl⟩ q5 rfl
  (fun f d e b=>by
   obtain rfl:f=4:=Option.some.inj (vX.symm.trans e)|>.symm;obtain rfl:d=Tryz.f4:=(Option.some.inj (Tryz.func4.symm.trans b)).symm;exact⟨da,fun j t c=>by
    rw[Tryz.params4] at c;have g:t∈[38]:=by simpa using Array.mem_of_getElem? c
    have a:([38].all fun u=> !Tryz.prog.wantsStandIn u)=true:=by kernel_rfl
    exact(show Tryz.prog.wantsStandIn t=false by simpa using List.all_eq_true.1 a t g)⟩)
  Hq
end
end Go.Proofs.YtcjlkjeeifemhaaGreatDoor
section
open Go Go.Ab
attribute [local irreducible] aY Br oM tU tZ Bj kK tW jJ Oy gO lN oP nQ nD iK vN tD I5 Q2 Nf M1 Sb Nl J1 Nj Pc kA mM qI iH copyV gW uU S4 S7 Fa jD Le O1 Ta lS oS wJ yB Cl yG Rz qY qM iP eP cI bS
namespace Go.Proofs.YtcjlkjeeifemhaaGreatDoor
open Go Go.Ab Go.Hm Go.At Go.Mc Go.Ct Go.Nt Go.Is Go.Sc
section
theorem nv {l:List Do} {n:Nat} (h:Bk l=0):Bk (l.take n)=0:=Yk.2 fun d a=>Yk.1 h d (List.mem_of_mem_take a)
set_option maxRecDepth 100000
variable {G:Bg} {h:AH} {L L':List HP} {Q:Value->AH->Prop} {C Cf:bM} {m N:Nat} {M:cN} {pv wv ov vv dv:Value} {ps:List (List Ins)} {ws os vs:List Int} {dl:List Do}
theorem Y6 {p5 p8:Nat} {a1 a2:Option Addr} {c1 c2:Nat} {tv uv:List Value} {l t:List Ev} (hb:l.length<2000) (u:tv[3]?=some (.slice a1 (l++t).length c1)) (g:uv[3]?=some (.slice a2 l.length c2)) (s:∀p,Q (.bool true) p):
  ∀(f i:Nat) (h:AH),i+f=l.length->Hs G h (vH a1 c1 (l++t)::vH a2 c2 l::aF p5 0 tv::aF p8 0 uv::L)->Dd 5 4 [] Q [pt p5 0 0,pt p8 0 0,I i] h:=by
 intro f
 induction f with
 |zero=>
  intro i h r d
  exact bW (aA (am p8 d g (bH (aM (aaa (jI (s h)))))))
 |succ f v=>
  intro i h r d
  obtain⟨x,k,q⟩:=mU (l:=l) (i:=i) (by omega)
  have j:(l++t)[i]?=some x:=by rw[List.getElem?_append_left (by omega)];exact k
  refine bW (aA (am p8 d g (bH (aM (aad (bW (aU d fun w h d=>?_)))))))
  refine aA (am p8 d g (qC (l:=l) (a:=a2) (c:=c2) (enc:=Ev.enc) (e:=24) d (by decide) (by omega) (by rw[Int.toNat_natCast];exact k) ?_))
  refine aA (am p5 d u (qC (l:=l++t) (a:=a1) (c:=c1) (enc:=Ev.enc) (e:=24) d (by decide) (by omega) (by rw[Int.toNat_natCast];exact j) ?_))
  refine tf (aJ (fun n=>n rfl) ?_)
  exact bW (aac (v (i+1) h (by omega) d.to))
theorem Zf {p2 p5 p8 D1 D2 n:Nat} {o1 o2:Bool} {a1 a2:Option Addr} {c1 c2:Nat} {l t:List Ev} (d:Hn G dv dl) (p:dl.length<=500) (q:n<=dl.length) (g:D1<=dl.length) (i:D2<=n) (j:D2<=D1) (k:n - D2<=dl.length - D1) (hb:l.length<2000) (e:∀c,Q (.bool true) c)
  (a:Hs G h (aF p2 0 (qV C pv wv ov vv dv)::vH a1 c1 (l++t)::vH a2 c2 l::aF p5 0 (kV D1 ((dl.length:Int) - D1) o1 (.slice a1 (l++t).length c1))::aF p8 0 (kV D2 ((n:Int) - D2) o2 (.slice a2 l.length c2))::L)):
  Dd 5 2 [] Q [I n,pt p2 0 0,pt p5 0 0,pt p8 0 0] h:=by
 have f:(l++t).length=l.length+t.length:=List.length_append
 refine bW (aA (am p5 a (v:=I D1) rfl (aA (am p5 a (v:=I ((dl.length:Int) - D1)) rfl (aac (aA (am p2 a (v:=dv) rfl (Jb d (aT (aaa ?_))))))))))
 refine aA (am p8 a (v:=I D2) rfl (aA (am p8 a (v:=I ((n:Int) - D2)) rfl (aac (aT (aaa ?_))))))
 refine aA (am p8 a (v:=I D2) rfl (aA (am p5 a (v:=I D1) rfl (gZ (aaa ?_)))))
 refine aA (am p8 a (v:=I ((n:Int) - D2)) rfl (aA (am p5 a (v:=I ((dl.length:Int) - D1)) rfl (gZ (aaa ?_)))))
 refine aA (am p8 a (v:= .slice a2 l.length c2) rfl (bH (aA (am p5 a (v:= .slice a1 (l++t).length c1) rfl (bH (gZ (aaa (bW ?_))))))))
 exact Y6 (L:=L) (tv:=kV D1 ((dl.length:Int) - D1) o1 (.slice a1 (l++t).length c1)) (uv:=kV D2 ((n:Int) - D2) o2 (.slice a2 l.length c2)) hb rfl rfl e l.length 0 h (by omega) a.to
theorem wy {n:Nat} {v':Value} (r:kU G 4 v' n (fun i=>(dl.map Do.enc).getD i [])) (s:n<=dl.length):Hn G v' (dl.take n):=by
 have q:((dl.take n).map Do.enc).length=n:=by rw[List.length_map,List.length_take];omega
 unfold Hn;rw[q];obtain⟨a,c,e,p⟩:=r;refine⟨a,c,e,fun i d=>?_⟩;have f:((dl.take n).map Do.enc).getD i []=(dl.map Do.enc).getD i []:=by
  rw[List.getD_eq_getElem?_getD,List.getD_eq_getElem?_getD,List.map_take,List.getElem?_take_of_lt d]
 obtain⟨b,o,cells,g,j,k,l⟩:=p i d;exact⟨b,o,cells,g,j,k.trans f.symm,l⟩
theorem H4 {x:Int} (hn:ps.length<=9223372036854775807) (hG:Gb G) (Y:Ob G 0 mY) (hA:ScA G pv wv ov vv dv ps ws os vs dl) (J:Vd G dv dl.length) (a:Hs G h L) (z:∀h',Q (.bool true) h'):
  Cl Pr K 5 [.agg ⟨qV C pv wv ov vv dv⟩,I x] h Q:=by
 refine cW (dB (cs:=qV C pv wv ov vv dv) a fun q h a=>an q a (l:=qV C pv wv ov vv dv) rfl rfl ?_)
 refine Xb hn hA a (fun p α h a=>bT (dT (eN ?_))) (fun h a=>bT (dT (bX (jI (z _)))))
 have hp:=p.p
 have hw:=p.w
 have ho:=p.o
 have W:=p.d
 refine aM (aQ (fun _=>jI (z _)) fun x0=>aA (am q a (v:=dv) rfl (Jb hA.Y1 (gZ (aQ (fun _=>jI (z _)) fun x1=>bW ?_)))))
 obtain⟨n,rfl⟩:=Int.eq_ofNat_of_zero_le (show 0<=x by omega)
 have g:n<=dl.length:=by omega
 have r:kU G 4 dv dl.length (fun i=>(dl.map Do.enc).getD i []):=by have:=hA.Y1;unfold Hn at this;rwa [List.length_map] at this
 have H:j9 ps ws os vs (dl.take n):=⟨p.p,p.w,p.o,p.v,by rw[List.length_take];omega⟩
 have E:∀{R:Value},kU G 4 R n (fun i=>(dl.map Do.enc).getD i [])->ScA G pv wv ov vv R ps ws os vs (dl.take n):=fun e=>⟨hA.old,wy e g,hA.pr,hA.wr,hA.vr,fun d W=>hA.dr d (List.mem_of_mem_take W)⟩
 have f:(qV C pv wv ov vv dv).all dV=true:=by
  obtain⟨⟨vi,hv,⟨S,T,e1,_⟩,β⟩,⟨P,c2,e2,_⟩,⟨a3,c3,e3,_⟩,⟨a4,c4,e4,_⟩⟩:=hA.old;obtain⟨a5,c5,e5,_⟩:=r;rw[e1,e2,e3,e4,e5];rfl
 refine an q a (l:=qV C pv wv ov vv dv) rfl rfl (F0 p hG Y hA a (fun y h a=>?_) fun y S T h a=>?_)
 .refine aH rfl (aH rfl (bG a fun s h a=>ax (b:=s) a fun h a=>an q a (l:=qV C pv wv ov vv dv) rfl rfl (bG a fun w h a=>aS (b:=w) a rfl rfl rfl f fun h a=>aA (am q a (v:=dv) rfl (q9 r J g fun R e=>?_)))));obtain⟨A,B,rfl,_⟩:=id e;refine aA (bC (b:=w) (o:=0) (j:=11) (c:=qV C pv wv ov vv dv) (vs:=[.slice A n B]) a rfl rfl rfl rfl fun h a=>an w a (l:=qV C pv wv ov vv (.slice A n B)) rfl rfl ?_);refine F0 H hG Y (E e) a (fun k h a=>?_) fun k P c2 h a=>?_
  .refine aH rfl (aH rfl (bG a fun u h a=>ax (b:=u) a fun h a=>aT (bE y (aT (bE y (aA (am s a (v:= .slice none 0 0) rfl (bH (aZ (bE rfl (jI (z _))))))))))))
  .refine aH rfl (aH rfl (bG a fun u h a=>ax (b:=u) a fun h a=>aT (bE y (aT (bE y (aA (am s a (v:= .slice none 0 0) rfl (bH (aZ (bE rfl (jI (z _))))))))))))
 .obtain⟨U,X⟩:=Zc y rfl;obtain⟨hC,_⟩:=xT U;have F:jK C ps ws os vs (dl.take n)=0:=by unfold jK;rw[aN9 (fun n=>n U),nv X]
  have D:=Sq U
  obtain⟨t,ht⟩:=rf (l:=dl) (n:=n) hC D
  have V:((C7 C ps ws os vs).runs C (dl.take n)).log.length<=0+2*(dl.take n).length:=(D.runs (l:=dl.take n) hC).inv.log
  have O:(dl.take n).length=n:=by rw[List.length_take];omega
  have q1:=qD (C:=C) (l:=dl) (M:=C7 C ps ws os vs)
  have q2:=qD (C:=C) (l:=dl.take n) (M:=C7 C ps ws os vs)
  have q3:=az (C:=C) (M:=C7 C ps ws os vs) g
  refine aH rfl (aH rfl (bG a fun s h a=>ax (b:=s) a fun h a=>an q a (l:=qV C pv wv ov vv dv) rfl rfl (bG a fun w h a=>aS (b:=w) a rfl rfl rfl f fun h a=>aA (am q a (v:=dv) rfl (q9 r J g fun R e=>?_)))))
  obtain⟨A,B,rfl,_⟩:=id e
  refine aA (bC (b:=w) (o:=0) (j:=11) (c:=qV C pv wv ov vv dv) (vs:=[.slice A n B]) a rfl rfl rfl rfl fun h a=>an w a (l:=qV C pv wv ov vv (.slice A n B)) rfl rfl ?_)
  refine F0 H hG Y (E e) a (fun k h a=>absurd F k) fun k P c2 h a=>?_
  refine aH rfl (aH rfl (bG a fun u h a=>ax (b:=u) a fun h a=>aT (aaa (aT (aaa ?_)))))
  rw[O] at a q2
  have Z:((C7 C ps ws os vs).runs C dl).log=((C7 C ps ws os vs).runs C (dl.take n)).log++t:=ht
  rw[Z] at a
  exact Zf (L:=L) (C:=C) (pv:=pv) (wv:=wv) (ov:=ov) (vv:=vv) (p2:=q) (p5:=s) (p8:=u) (a1:=S) (c1:=T) (a2:=P) (c2:=c2) (l:=((C7 C ps ws os vs).runs C (dl.take n)).log) (D1:=(C7 C ps ws os vs).iG C dl) (D2:=(C7 C ps ws os vs).iG C (dl.take n)) (t:=t) (o1:=((C7 C ps ws os vs).runs C dl).over C) (o2:=((C7 C ps ws os vs).runs C (dl.take n)).over C) hA.Y1 W g q1 q2 q3.1 q3.2 (by rw[O] at V;omega) z a.to
end
end Go.Proofs.YtcjlkjeeifemhaaGreatDoor
end
