/- SafeBarrier: for every input the law answers true, and each argument reads afterwards as it read before. No condition but the listed variables' text. -/
import Derived.Test.YtmhapehobfnoiaaGreatDoorS18
import Derived.Test.YtmhapehobfnoiaaGreatDoorS16
namespace Go.Proofs.YtmhapehobfnoiaaGreatDoor
open Go Go.Ab Go.Hm Go.Is Go.At Go.Mc Go.RowKit
section
theorem Gr (os:Os) (args:Array Value):laidMetH Tryz.prog Rows.safeBarrierRow.laid ((World.doorLaid Tryz.prog 4000 os).forCall (fun _ _=>0) ⟨#[],args,[]⟩).memory:=
 laidMetH_of_parts3 (fuel:=8) (laidMet_of_run' 8 (by kernel_rfl) (by kernel_rfl)) (by kernel_rfl) (by kernel_rfl)
set_option maxRecDepth 100000 in
theorem C9 (os:Os) (started:os.Started) (H:Type) (enc:TypeId×Value->H):
  ReturnsInHanded {} Tryz.checked os 7 .any (fun w f=>(Rows.safeBarrierSpec.pre enc Tryz.prog Tryz.f7 [] false w f/\laidMetH Tryz.prog Rows.safeBarrierRow.laid w)/\sizedMet enc Tryz.prog Tryz.f7 (OpenSpec.ofChange Rows.safeBarrierSpec) false w f)
   (Rows.safeBarrierSpec.post enc Tryz.prog Tryz.f7 false true false false):=by
 refine Wo (C:=Tryz.checked) started own (by kernel_rfl) Tryz.func7 laidOut (by kernel_rfl) rfl Tryz.underlying4 rfl (fun p j=>by
   match p,j with
   |[d1,d2],_=>rfl)
  (ChangeSpec.witness_shaped (enc:=enc) (C:=Tryz.checked) (os:=os) (X:=fun w _=>laidMetH Tryz.prog Rows.safeBarrierRow.laid w) false (World.doorLaid Tryz.prog 4000 os) #[.agg #[.int .i64 0,.int .i64 0,.int .i64 0,.int .i64 0,.int .i64 0,.int .i64 0,.int .i64 0,.slice none 0 0,.slice none 0 0,.slice none 0 0,.slice none 0 0],.slice none 0 0] 8 rfl (World.shaped_of_RefB (by kernel_rfl) (by kernel_rfl)) (by kernel_rfl) (by kernel_rfl) (by kernel_rfl) (Gr os _)) ?_
 intro W o f p K hA g z
 rw[show(Tryz.f7.params.toList)=[27,58] from by rw[Tryz.params7]] at hA
 rw[Tryz.params7] at g
 obtain⟨v0,N,s,u,p0,q0,rfl,rfl,rfl,x,L⟩:=ChangeShapes.trodAll_cons hA
 obtain⟨v1,O,t,v,p1,q1,rfl,rfl,rfl,y,M⟩:=ChangeShapes.trodAll_cons L
 obtain⟨rfl,rfl,rfl⟩:=ChangeShapes.trodAll_nil M
 obtain⟨C,Q,lP,V,S,lW,cW,P,lO,U,R,lV,Y,rfl,E,hP,D,A,B⟩:=jo (g 0 _ v0 rfl rfl) x
 obtain⟨q,J,r,rfl,i⟩:=ct Tryz.underlying58 aEq aA7 (by decide) (g 1 _ v1 rfl rfl) y
 have k:Gl W:=aGb (by kernel_rfl) z (by simp[Rows.safeBarrierRow]) (by simp[Rows.safeBarrierRow]) (by simp[Rows.safeBarrierRow]) (by simp[Rows.safeBarrierRow])
 exact Vk k E hP D A B i uz (fun c d _=>[c,d]) (fun ρ c T d Z e e' a b _=>aU.cons a (aU.cons b aU.nil)) fun G h pv wv ov vv lv nv K ws os vs l n F hG k m j _ I=>Lc F hG k m j I fun _=>rfl
set_option maxRecDepth 100000
theorem Li:(Rows.safeBarrierRow.inPlace==Tryz.prog.inPlace 7)=true:=by kernel_rfl
theorem Ji:(Rows.safeBarrierRow.unfollowed==Tryz.prog.unfollowed 7)=true:=by kernel_rfl
theorem Jw:(Rows.safeBarrierRow.recurses==Tryz.prog.recurses 7)=true:=by kernel_rfl
theorem Jt:(Rows.safeBarrierRow.named==Tryz.prog.varsNamed 7)=true:=by kernel_rfl
theorem Gh:false=Rows.safeBarrierRow.goesBy Tryz.prog:=by kernel_rfl
theorem uL:Tryz.prog.funcNamed "donjon/donjonlaw17.SafeBarrier"=some 7:=by kernel_rfl
theorem Ci:joinedFacts Tryz.prog 7 Tryz.f7 Rows.safeBarrierSpec Rows.safeBarrierRow=true:=
 (nZ (nZ (nZ (nZ (nZ (nZ (nZ (nZ (nZ (nZ (nZ (nZ (nZ (nZ (nZ (nZ (nZ (nZ (nZ (nZ (nZ (nZ (nZ (nZ (nZ (nZ (nZ (nZ (nZ (nZ (nZ (by kernel_rfl) laidOut) aEc) (by kernel_rfl)) (by kernel_rfl)) (by kernel_rfl)) aA4) (by kernel_rfl)) yk) Li) Ji) Jw) Jt) (by kernel_rfl)) (by kernel_rfl)) (by kernel_rfl)) (by kernel_rfl)) (by kernel_rfl)) (by kernel_rfl)) (by kernel_rfl)) (by kernel_rfl)) (by kernel_rfl)) z7) (by kernel_rfl)) y6) yn) xh) aD2) (by kernel_rfl)) (by kernel_rfl)) (by kernel_rfl)) (by kernel_rfl))
theorem Fm:Rows.safeBarrierRow.holds Tryz.pinned (OpenSpec.ofChange Rows.safeBarrierSpec):=
 OpenClaim.holds_of_wide 7 Tryz.f7 rfl rfl rfl rfl rfl rfl rfl ⟨rfl,rfl,rfl,rfl,rfl⟩ rfl rfl rfl rfl rfl uL Tryz.func7 Ci
  (of_decide_eq_true (by kernel_rfl)) (by unfold Func.isWrapper;first|(rw[aKj (by decide+kernel)];kernel_rfl)|(rw[aKi (by decide+kernel)];exact⟨rfl,rfl⟩))
  (fun a started H enc _=>C9 a started H enc)
theorem safeBarrier_proved:Rows.SafeBarrierCardSaid:=
 Claim7.holds_tied_plain_at .later [] Rows.safeBarrierCard.laidKinds true Rows.safeBarrierCard.stood.harness false
  Fm (fun _ h=>by cases h) (by kernel_rfl) (fun _ h=>by cases h) safeBarrier_row_tie rfl ⟨rfl,rfl⟩ aD3 rfl
  (fun f d e b=>by
   obtain rfl:f=7:=Option.some.inj (uL.symm.trans e)|>.symm;obtain rfl:d=Tryz.f7:=(Option.some.inj (Tryz.func7.symm.trans b)).symm;exact⟨yb,fun j t c=>by
    rw[Tryz.params7] at c;have g:t∈[27,58]:=by simpa using Array.mem_of_getElem? c
    have a:([27,58].all fun u=> !Tryz.prog.wantsStandIn u)=true:=by kernel_rfl
    exact(show Tryz.prog.wantsStandIn t=false by simpa using List.all_eq_true.1 a t g)⟩)
  Gh
end
end Go.Proofs.YtmhapehobfnoiaaGreatDoor
