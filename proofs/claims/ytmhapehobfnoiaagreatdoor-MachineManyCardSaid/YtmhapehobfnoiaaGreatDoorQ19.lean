/- A part of the proof. -/
import Derived.Test.YtmhapehobfnoiaaGreatDoorQ18
import Derived.Test.YtmhapehobfnoiaaGreatDoorQ15
namespace Go.Proofs.YtmhapehobfnoiaaGreatDoor
open Go Go.Ab Go.Hm Go.Is Go.At Go.Mc Go.RowKit
section
theorem F9 (os:Os) (args:Array Value):laidMetH Tryz.prog Rows.machineManyRow.laid ((World.doorLaid Tryz.prog 4000 os).forCall (fun _ _=>0) ⟨#[],args,[]⟩).memory:=
 laidMetH_of_parts3 (fuel:=8) (laidMet_of_run' 8 (by kernel_rfl) (by kernel_rfl)) (by kernel_rfl) (by kernel_rfl)
set_option maxRecDepth 100000 in
theorem Cn (os:Os) (started:os.Started) (H:Type) (enc:TypeId×Value->H):
  ReturnsInHanded {} Tryz.checked os 4 .any (fun w f=>(Rows.machineManySpec.pre enc Tryz.prog Tryz.f4 [] false w f/\laidMetH Tryz.prog Rows.machineManyRow.laid w)/\sizedMet enc Tryz.prog Tryz.f4 (OpenSpec.ofChange Rows.machineManySpec) false w f)
   (Rows.machineManySpec.post enc Tryz.prog Tryz.f4 false true false false):=by
 refine Cc (C:=Tryz.checked) started own (by kernel_rfl) Tryz.func4 laidOut (by kernel_rfl) rfl Tryz.underlying4 rfl (fun p j=>by
   match p,j with
   |[d1,d2],_=>rfl)
  (ChangeSpec.witness_shaped (enc:=enc) (C:=Tryz.checked) (os:=os) (X:=fun w _=>laidMetH Tryz.prog Rows.machineManyRow.laid w) false (World.doorLaid Tryz.prog 4000 os) #[.agg #[.int .i64 0,.int .i64 0,.int .i64 0,.int .i64 0,.int .i64 0,.int .i64 0,.int .i64 0,.slice none 0 0,.slice none 0 0,.slice none 0 0,.slice none 0 0],.slice none 0 0] 8 rfl (World.shaped_of_RefB (by kernel_rfl) (by kernel_rfl)) (by kernel_rfl) (by kernel_rfl) (by kernel_rfl) (F9 os _)) ?_
 intro W o f p K hA g z
 rw[show(Tryz.f4.params.toList)=[27,58] from by rw[Tryz.params4]] at hA
 rw[Tryz.params4] at g
 obtain⟨v0,N,s,u,p0,q0,rfl,rfl,rfl,x,L⟩:=ChangeShapes.trodAll_cons hA
 obtain⟨v1,O,t,v,p1,q1,rfl,rfl,rfl,y,M⟩:=ChangeShapes.trodAll_cons L
 obtain⟨rfl,rfl,rfl⟩:=ChangeShapes.trodAll_nil M
 obtain⟨C,Q,lP,V,S,lW,cW,P,lO,U,R,lV,Y,rfl,E,hP,D,A,B⟩:=Gz (g 0 _ v0 rfl rfl) x
 obtain⟨q,J,r,rfl,i⟩:=Ag Tryz.underlying58 Q6 Ii (by decide) (g 1 _ v1 rfl rfl) y
 have k:Gl W:=yz (by kernel_rfl) z (by simp[Rows.machineManyRow]) (by simp[Rows.machineManyRow]) (by simp[Rows.machineManyRow]) (by simp[Rows.machineManyRow])
 exact Bq k E hP D A B i Vo (fun c d _=>[c,d]) (fun ρ c T d Z e e' a b _=>aU.cons a (aU.cons b aU.nil)) fun G h pv wv ov vv lv nv K ws os vs l n F hG k m j _ I=>Mz F hG k m j I fun _=>rfl
set_option maxRecDepth 100000
theorem Jv:(Rows.machineManyRow.inPlace==Tryz.prog.inPlace 4)=true:=by kernel_rfl
theorem Kp:(Rows.machineManyRow.unfollowed==Tryz.prog.unfollowed 4)=true:=by kernel_rfl
theorem Js:(Rows.machineManyRow.recurses==Tryz.prog.recurses 4)=true:=by kernel_rfl
theorem J6:(Rows.machineManyRow.named==Tryz.prog.varsNamed 4)=true:=by kernel_rfl
theorem F7:false=Rows.machineManyRow.goesBy Tryz.prog:=by kernel_rfl
theorem tF:Tryz.prog.funcNamed "donjon/donjonlaw16.MachineMany"=some 4:=by kernel_rfl
theorem Cy:joinedFacts Tryz.prog 4 Tryz.f4 Rows.machineManySpec Rows.machineManyRow=true:=
 (dM (dM (dM (dM (dM (dM (dM (dM (dM (dM (dM (dM (dM (dM (dM (dM (dM (dM (dM (dM (dM (dM (dM (dM (dM (dM (dM (dM (dM (dM (dM (by kernel_rfl) laidOut) Yc) (by kernel_rfl)) (by kernel_rfl)) (by kernel_rfl)) Sw) (by kernel_rfl)) Su) Jv) Kp) Js) J6) (by kernel_rfl)) (by kernel_rfl)) (by kernel_rfl)) (by kernel_rfl)) (by kernel_rfl)) (by kernel_rfl)) (by kernel_rfl)) (by kernel_rfl)) (by kernel_rfl)) Ro) (by kernel_rfl)) Rf) Rn) Sg) Z4) (by kernel_rfl)) (by kernel_rfl)) (by kernel_rfl)) (by kernel_rfl))
theorem Gq:Rows.machineManyRow.holds Tryz.pinned (OpenSpec.ofChange Rows.machineManySpec):=
 OpenClaim.holds_of_wide 4 Tryz.f4 rfl rfl rfl rfl rfl rfl rfl ⟨rfl,rfl,rfl,rfl,rfl⟩ rfl rfl rfl rfl rfl tF Tryz.func4 Cy
  (of_decide_eq_true (by kernel_rfl)) (by unfold Func.isWrapper;first|(rw[aLy (by decide+kernel)];kernel_rfl)|(rw[aLx (by decide+kernel)];exact⟨rfl,rfl⟩))
  (fun a started H enc _=>Cn a started H enc)
theorem machineMany_proved:Rows.MachineManyCardSaid:=
 Claim7.holds_tied_plain_at .later [] Rows.machineManyCard.laidKinds true Rows.machineManyCard.stood.harness false
  Gq (fun _ h=>by cases h) (by kernel_rfl) (fun _ h=>by cases h) machineMany_row_tie rfl ⟨rfl,rfl⟩ Yw rfl
  (fun f d e b=>by
   obtain rfl:f=4:=Option.some.inj (tF.symm.trans e)|>.symm;obtain rfl:d=Tryz.f4:=(Option.some.inj (Tryz.func4.symm.trans b)).symm;exact⟨Qp,fun j t c=>by
    rw[Tryz.params4] at c;have g:t∈[27,58]:=by simpa using Array.mem_of_getElem? c
    have a:([27,58].all fun u=> !Tryz.prog.wantsStandIn u)=true:=by kernel_rfl
    exact(show Tryz.prog.wantsStandIn t=false by simpa using List.all_eq_true.1 a t g)⟩)
  F7
end
end Go.Proofs.YtmhapehobfnoiaaGreatDoor
