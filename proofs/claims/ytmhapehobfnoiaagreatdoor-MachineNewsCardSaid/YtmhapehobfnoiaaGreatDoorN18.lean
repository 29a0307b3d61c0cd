/- MachineNews: for every input the law answers true, and each argument reads afterwards as it read before. No condition but the listed variables' text. -/
import Derived.Test.YtmhapehobfnoiaaGreatDoorN17
import Derived.Test.YtmhapehobfnoiaaGreatDoorN14
namespace Go.Proofs.YtmhapehobfnoiaaGreatDoor
open Go Go.Ab Go.Hm Go.Is Go.At Go.Mc Go.RowKit
section
theorem Be (os:Os) (args:Array Value):laidMetH Tryz.prog Rows.machineNewsRow.laid ((World.doorLaid Tryz.prog 4000 os).forCall (fun _ _=>0) ⟨#[],args,[]⟩).memory:=
 laidMetH_of_parts3 (fuel:=8) (laidMet_of_run' 8 (by kernel_rfl) (by kernel_rfl)) (by kernel_rfl) (by kernel_rfl)
set_option maxRecDepth 100000 in
theorem yL (os:Os) (started:os.Started) (H:Type) (enc:TypeId×Value->H):
  ReturnsInHanded {} Tryz.checked os 3 .any (fun w b=>(Rows.machineNewsSpec.pre enc Tryz.prog Tryz.f3 [] false w b/\laidMetH Tryz.prog Rows.machineNewsRow.laid w)/\sizedMet enc Tryz.prog Tryz.f3 (OpenSpec.ofChange Rows.machineNewsSpec) false w b)
   (Rows.machineNewsSpec.post enc Tryz.prog Tryz.f3 false true false false):=by
 refine Qu (C:=Tryz.checked) started own (by kernel_rfl) Tryz.func3 laidOut (by kernel_rfl) rfl Tryz.underlying4 rfl (fun k u=>by
   match k,u with
   |[d1],_=>rfl)
  (ChangeSpec.witness_shaped (enc:=enc) (C:=Tryz.checked) (os:=os) (X:=fun w _=>laidMetH Tryz.prog Rows.machineNewsRow.laid w) false (World.doorLaid Tryz.prog 4000 os) #[.agg #[.int .i64 0,.int .i64 0,.int .i64 0,.int .i64 0,.int .i64 0,.int .i64 0,.int .i64 0,.slice none 0 0,.slice none 0 0,.slice none 0 0,.slice none 0 0]] 8 rfl (World.shaped_of_RefB (by kernel_rfl) (by kernel_rfl)) (by kernel_rfl) (by kernel_rfl) (by kernel_rfl) (Be os _)) ?_
 intro W j b k z hA f q
 rw[show(Tryz.f3.params.toList)=[27] from by rw[Tryz.params3]] at hA
 rw[Tryz.params3] at f
 obtain⟨v0,B,m,o,Y,q0,rfl,rfl,rfl,p,A⟩:=ChangeShapes.trodAll_cons hA
 obtain⟨rfl,rfl,rfl⟩:=ChangeShapes.trodAll_nil A
 obtain⟨C,E,Q,L,I,S,cW,D,P,K,F,R,M,rfl,v,hP,t,r,s⟩:=Vh (f 0 _ v0 rfl rfl) p
 have g:Gl W:=zr (by kernel_rfl) q (by simp[Rows.machineNewsRow]) (by simp[Rows.machineNewsRow]) (by simp[Rows.machineNewsRow]) (by simp[Rows.machineNewsRow])
 exact S0 g v hP t r s Ot Ot (fun c _ _=>[c]) (fun ρ c J d N e O a _ _=>aE.cons a aE.nil) fun G h Z wv V vv T U z ws os vs l n x hG g i _ _ y=>E8 x hG g i y fun _=>rfl
set_option maxRecDepth 100000
theorem D8:(Rows.machineNewsRow.inPlace==Tryz.prog.inPlace 3)=true:=by kernel_rfl
theorem Fa:(Rows.machineNewsRow.unfollowed==Tryz.prog.unfollowed 3)=true:=by kernel_rfl
theorem Ei:(Rows.machineNewsRow.recurses==Tryz.prog.recurses 3)=true:=by kernel_rfl
theorem Dy:(Rows.machineNewsRow.named==Tryz.prog.varsNamed 3)=true:=by kernel_rfl
theorem B8:false=Rows.machineNewsRow.goesBy Tryz.prog:=by kernel_rfl
theorem pD:Tryz.prog.funcNamed "donjon/donjonlaw16.MachineNews"=some 3:=by kernel_rfl
theorem yQ:joinedFacts Tryz.prog 3 Tryz.f3 Rows.machineNewsSpec Rows.machineNewsRow=true:=
 (jE (jE (jE (jE (jE (jE (jE (jE (jE (jE (jE (jE (jE (jE (jE (jE (jE (jE (jE (jE (jE (jE (jE (jE (jE (jE (jE (jE (jE (jE (jE (by kernel_rfl) laidOut) vd) (by kernel_rfl)) (by kernel_rfl)) (by kernel_rfl)) j2) (by kernel_rfl)) me) D8) Fa) Ei) Dy) (by kernel_rfl)) (by kernel_rfl)) (by kernel_rfl)) (by kernel_rfl)) (by kernel_rfl)) (by kernel_rfl)) (by kernel_rfl)) (by kernel_rfl)) (by kernel_rfl)) ml) (by kernel_rfl)) mz) py) oa) vn) (by kernel_rfl)) (by kernel_rfl)) (by kernel_rfl)) (by kernel_rfl))
theorem Bq:Rows.machineNewsRow.holds Tryz.pinned (OpenSpec.ofChange Rows.machineNewsSpec):=
 OpenClaim.holds_of_wide 3 Tryz.f3 rfl rfl rfl rfl rfl rfl rfl ⟨rfl,rfl,rfl,rfl,rfl⟩ rfl rfl rfl rfl rfl pD Tryz.func3 yQ
  (of_decide_eq_true (by kernel_rfl)) (by unfold Func.isWrapper;first|(rw[aCx (by decide+kernel)];kernel_rfl)|(rw[aCw (by decide+kernel)];exact⟨rfl,rfl⟩))
  (fun a started H enc _=>yL a started H enc)
theorem machineNews_proved:Rows.MachineNewsCardSaid:=
 Claim7.holds_tied_plain_at .later [] Rows.machineNewsCard.laidKinds true Rows.machineNewsCard.stood.harness false
  Bq (fun _ h=>by cases h) (by kernel_rfl) (fun _ h=>by cases h) machineNews_row_tie rfl ⟨rfl,rfl⟩ ud rfl
  (fun f d e b=>by
   obtain rfl:f=3:=Option.some.inj (pD.symm.trans e)|>.symm;obtain rfl:d=Tryz.f3:=(Option.some.inj (Tryz.func3.symm.trans b)).symm;exact⟨mq,fun j t c=>by
    rw[Tryz.params3] at c;have g:t∈[27]:=by simpa using Array.mem_of_getElem? c
    have a:([27].all fun u=> !Tryz.prog.wantsStandIn u)=true:=by kernel_rfl
    exact(show Tryz.prog.wantsStandIn t=false by simpa using List.all_eq_true.1 a t g)⟩)
  B8
end
end Go.Proofs.YtmhapehobfnoiaaGreatDoor
