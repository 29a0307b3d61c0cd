/- A part of the proof. -/
import Derived.Test.YtmhapehobfnoiaaGreatDoorQ18
import Derived.Test.YtmhapehobfnoiaaGreatDoorQ15
namespace Go.Proofs.YtmhapehobfnoiaaGreatDoor
open Go Go.Ab Go.Hm Go.Is Go.At Go.Mc Go.RowKit
section
theorem C1 (os:Os) (args:Array Value):laidMetH Tryz.prog Rows.machineCopiesRow.laid ((World.doorLaid Tryz.prog 4000 os).forCall (fun _ _=>0) ⟨#[],args,[]⟩).memory:=
 laidMetH_of_parts3 (fuel:=8) (laidMet_of_run' 8 (by kernel_rfl) (by kernel_rfl)) (by kernel_rfl) (by kernel_rfl)
set_option maxRecDepth 100000 in
theorem zF (os:Os) (started:os.Started) (H:Type) (enc:TypeId×Value->H):
  ReturnsInHanded {} Tryz.checked os 5 .any (fun w i=>(Rows.machineCopiesSpec.pre enc Tryz.prog Tryz.f5 [] false w i/\laidMetH Tryz.prog Rows.machineCopiesRow.laid w)/\sizedMet enc Tryz.prog Tryz.f5 (OpenSpec.ofChange Rows.machineCopiesSpec) false w i)
   (Rows.machineCopiesSpec.post enc Tryz.prog Tryz.f5 false true false false):=by
 refine Cc (C:=Tryz.checked) started own (by kernel_rfl) Tryz.func5 laidOut (by kernel_rfl) rfl Tryz.underlying4 rfl (fun s m=>by
   match s,m with
   |[d1,d2,d3],_=>rfl)
  (ChangeSpec.witness_shaped (enc:=enc) (C:=Tryz.checked) (os:=os) (X:=fun w _=>laidMetH Tryz.prog Rows.machineCopiesRow.laid w) false (World.doorLaid Tryz.prog 4000 os) #[.agg #[.int .i64 0,.int .i64 0,.int .i64 0,.int .i64 0,.int .i64 0,.int .i64 0,.int .i64 0,.slice none 0 0,.slice none 0 0,.slice none 0 0,.slice none 0 0],.slice none 0 0,.slice none 0 0] 8 rfl (World.shaped_of_RefB (by kernel_rfl) (by kernel_rfl)) (by kernel_rfl) (by kernel_rfl) (by kernel_rfl) (C1 os _)) ?_
 intro W r i s T hA f K
 rw[show(Tryz.f5.params.toList)=[27,58,58] from by rw[Tryz.params5]] at hA
 rw[Tryz.params5] at f
 obtain⟨v0,Z,y,B,p0,q0,rfl,rfl,rfl,F,U⟩:=ChangeShapes.trodAll_cons hA
 obtain⟨v1,α,z,D,p1,q1,rfl,rfl,rfl,I,V⟩:=ChangeShapes.trodAll_cons U
 obtain⟨v2,β,A,E,p2,q2,rfl,rfl,rfl,J,Y⟩:=ChangeShapes.trodAll_cons V
 obtain⟨rfl,rfl,rfl⟩:=ChangeShapes.trodAll_nil Y
 obtain⟨C,aP,lP,cP,aW,lW,cW,aO,lO,cO,aV,lV,cV,rfl,O,hP,N,L,M⟩:=Gz (f 0 _ v0 rfl rfl) F
 obtain⟨t,R,v,rfl,j⟩:=Ag Tryz.underlying58 Q6 Ii (by decide) (f 1 _ v1 rfl rfl) I
 obtain⟨u,S,x,rfl,k⟩:=Ag Tryz.underlying58 Q6 Ii (by decide) (f 2 _ v2 rfl rfl) J
 have p:Gl W:=yz (by kernel_rfl) K (by simp[Rows.machineCopiesRow]) (by simp[Rows.machineCopiesRow]) (by simp[Rows.machineCopiesRow]) (by simp[Rows.machineCopiesRow])
 exact Bq p O hP N L M j k (fun c d e=>[c,d,e]) (fun ρ c c' d d' e e' a b g=>aU.cons a (aU.cons b (aU.cons g aU.nil))) fun G h pv wv ov vv lv nv T ws os vs l n P hG p q m o Q=>Fa P hG p q m o Q fun _=>rfl
set_option maxRecDepth 100000
theorem F4:(Rows.machineCopiesRow.inPlace==Tryz.prog.inPlace 5)=true:=by kernel_rfl
theorem Fs:(Rows.machineCopiesRow.unfollowed==Tryz.prog.unfollowed 5)=true:=by kernel_rfl
theorem Gu:(Rows.machineCopiesRow.recurses==Tryz.prog.recurses 5)=true:=by kernel_rfl
theorem G0:(Rows.machineCopiesRow.named==Tryz.prog.varsNamed 5)=true:=by kernel_rfl
theorem Bx:false=Rows.machineCopiesRow.goesBy Tryz.prog:=by kernel_rfl
theorem rH:Tryz.prog.funcNamed "donjon/donjonlaw16.MachineCopies"=some 5:=by kernel_rfl
theorem zL:joinedFacts Tryz.prog 5 Tryz.f5 Rows.machineCopiesSpec Rows.machineCopiesRow=true:=
 (dM (dM (dM (dM (dM (dM (dM (dM (dM (dM (dM (dM (dM (dM (dM (dM (dM (dM (dM (dM (dM (dM (dM (dM (dM (dM (dM (dM (dM (dM (dM (by kernel_rfl) laidOut) Yc) (by kernel_rfl)) (by kernel_rfl)) (by kernel_rfl)) Sw) (by kernel_rfl)) Su) F4) Fs) Gu) G0) (by kernel_rfl)) (by kernel_rfl)) (by kernel_rfl)) (by kernel_rfl)) (by kernel_rfl)) (by kernel_rfl)) (by kernel_rfl)) (by kernel_rfl)) (by kernel_rfl)) Ro) (by kernel_rfl)) Rf) Rn) Sg) Z4) (by kernel_rfl)) (by kernel_rfl)) (by kernel_rfl)) (by kernel_rfl))
theorem Cg:Rows.machineCopiesRow.holds Tryz.pinned (OpenSpec.ofChange Rows.machineCopiesSpec):=
 OpenClaim.holds_of_wide 5 Tryz.f5 rfl rfl rfl rfl rfl rfl rfl ⟨rfl,rfl,rfl,rfl,rfl⟩ rfl rfl rfl rfl rfl rH Tryz.func5 zL
  (of_decide_eq_true (by kernel_rfl)) (by unfold Func.isWrapper;first|(rw[aLy (by decide+kernel)];kernel_rfl)|(rw[aLx (by decide+kernel)];exact⟨rfl,rfl⟩))
  (fun a started H enc _=>zF a started H enc)
theorem machineCopies_proved:Rows.MachineCopiesCardSaid:=
 Claim7.holds_tied_plain_at .later [] Rows.machineCopiesCard.laidKinds true Rows.machineCopiesCard.stood.harness false
  Cg (fun _ h=>by cases h) (by kernel_rfl) (fun _ h=>by cases h) machineCopies_row_tie rfl ⟨rfl,rfl⟩ Yw rfl
  (fun f d e b=>by
   obtain rfl:f=5:=Option.some.inj (rH.symm.trans e)|>.symm;obtain rfl:d=Tryz.f5:=(Option.some.inj (Tryz.func5.symm.trans b)).symm;exact⟨Qp,fun j t c=>by
    rw[Tryz.params5] at c;have g:t∈[27,58,58]:=by simpa using Array.mem_of_getElem? c
    have a:([27,58,58].all fun u=> !Tryz.prog.wantsStandIn u)=true:=by kernel_rfl
    exact(show Tryz.prog.wantsStandIn t=false by simpa using List.all_eq_true.1 a t g)⟩)
  Bx
end
end Go.Proofs.YtmhapehobfnoiaaGreatDoor
