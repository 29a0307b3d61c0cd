/- MachineProgram: for every input the law answers true, and each argument reads afterwards as it read before. No condition but the listed variables' text. -/
import Derived.Test.YtajjljbmfdboaaaGreatDoorP23
import Derived.Test.YtajjljbmfdboaaaGreatDoorP17
section
namespace Go.Proofs.YtajjljbmfdboaaaGreatDoor
open Go Go.Ab Go.Hm Go.Is Go.At Go.Mc Go.RowKit
theorem zE (os:Os) (args:Array Value):laidMetH Tryz.prog Rows.machineProgramRow.laid ((World.doorLaid Tryz.prog 4000 os).forCall (fun _ _=>0) ⟨#[],args,[]⟩).memory:=
 laidMetH_of_parts3 (fuel:=8) (laidMet_of_run' 8 (by kernel_rfl) (by kernel_rfl)) (by kernel_rfl) (by kernel_rfl)
set_option maxRecDepth 100000 in
theorem vS (os:Os) (started:os.Started) (H:Type) (enc:TypeId×Value→H):
  ReturnsInHanded {} Tryz.checked os 8 .any (fun w args=>(Rows.machineProgramSpec.pre enc Tryz.prog Tryz.f8 [] false w args∧laidMetH Tryz.prog Rows.machineProgramRow.laid w)∧sizedMet enc Tryz.prog Tryz.f8 (OpenSpec.ofChange Rows.machineProgramSpec) false w args)
   (Rows.machineProgramSpec.post enc Tryz.prog Tryz.f8 false true false false):=by
 refine Ie (C:=Tryz.checked) started own (by kernel_rfl) Tryz.func8 laidOut (by kernel_rfl) rfl Tryz.underlying4 rfl (fun ds hd=>by
   match ds,hd with
   |[d1,d2],_=>rfl)
  (ChangeSpec.witness_shaped (enc:=enc) (C:=Tryz.checked) (os:=os) (X:=fun w _=>laidMetH Tryz.prog Rows.machineProgramRow.laid w) false (World.doorLaid Tryz.prog 4000 os) #[.agg #[.int .i64 0,.int .i64 0,.int .i64 0,.int .i64 0,.int .i64 0,.int .i64 0,.int .i64 0,.slice none 0 0,.slice none 0 0,.slice none 0 0,.slice none 0 0],.slice none 0 0] 8 rfl (World.shaped_of_RefB (by kernel_rfl) (by kernel_rfl)) (by kernel_rfl) (by kernel_rfl) (by kernel_rfl) (zE os _)) ?_
 intro W base args ds ps hA hval hL
 rw[show(Tryz.f8.params.toList)=[62,35] from by rw[Tryz.params8]] at hA
 rw[Tryz.params8] at hval
 obtain⟨v0,vs0,dd0,ds0,p0,q0,rfl,rfl,rfl,h0,r0⟩:=ChangeShapes.trodAll_cons hA
 obtain⟨v1,vs1,dd1,ds1,p1,q1,rfl,rfl,rfl,h1,r1⟩:=ChangeShapes.trodAll_cons r0
 obtain⟨rfl,rfl,rfl⟩:=ChangeShapes.trodAll_nil r1
 obtain⟨C,aP,lP,cP,aW,lW,cW,aO,lO,cO,aV,lV,cV,rfl,hm,hP,hW,hO,hV⟩:=Kz (hval 0 _ v0 rfl rfl) h0
 obtain⟨aD1,lD1,cD1,rfl,hD1⟩:=Mv Tryz.underlying35 re Yr (by decide) (hval 1 _ v1 rfl rfl) h1
 have hg:Gl W:=xk (by kernel_rfl) hL (by simp[Rows.machineProgramRow]) (by simp[Rows.machineProgramRow]) (by simp[Rows.machineProgramRow]) (by simp[Rows.machineProgramRow])
 exact H4 hg hm hP hW hO hV hD1 Tx (fun c d _=>[c,d]) (fun ρ c c' d d' e e' a b _=>aT.cons a (aT.cons b aT.nil)) fun G h pv wv ov vv lv nv ps ws os vs l n hn hG hg hom hd _ hs=>Dc hn hG hg hom hd hs fun _=>rfl
set_option maxRecDepth 100000
theorem B0:(Rows.machineProgramRow.inPlace==Tryz.prog.inPlace 8)=true:=by kernel_rfl
theorem C4:(Rows.machineProgramRow.unfollowed==Tryz.prog.unfollowed 8)=true:=by kernel_rfl
theorem Bt:(Rows.machineProgramRow.recurses==Tryz.prog.recurses 8)=true:=by kernel_rfl
theorem Ca:(Rows.machineProgramRow.named==Tryz.prog.varsNamed 8)=true:=by kernel_rfl
theorem zC:false=Rows.machineProgramRow.goesBy Tryz.prog:=by kernel_rfl
theorem oS:Tryz.prog.funcNamed "donjon/donjonlaw16.MachineProgram"=some 8:=by kernel_rfl
theorem vQ:joinedFacts Tryz.prog 8 Tryz.f8 Rows.machineProgramSpec Rows.machineProgramRow=true:=
 (eX (eX (eX (eX (eX (eX (eX (eX (eX (eX (eX (eX (eX (eX (eX (eX (eX (eX (eX (eX (eX (eX (eX (eX (eX (eX (eX (eX (eX (eX (eX (by kernel_rfl) laidOut) ny) (by kernel_rfl)) (by kernel_rfl)) (by kernel_rfl)) X0) (by kernel_rfl)) Xs) B0) C4) Bt) Ca) (by kernel_rfl)) (by kernel_rfl)) (by kernel_rfl)) (by kernel_rfl)) (by kernel_rfl)) (by kernel_rfl)) (by kernel_rfl)) (by kernel_rfl)) (by kernel_rfl)) Y5) (by kernel_rfl)) Y7) Xk) Xc) nc) (by kernel_rfl)) (by kernel_rfl)) (by kernel_rfl)) (by kernel_rfl))
theorem zF:Rows.machineProgramRow.holds Tryz.pinned (OpenSpec.ofChange Rows.machineProgramSpec):=
 OpenClaim.holds_of_wide 8 Tryz.f8 rfl rfl rfl rfl rfl rfl rfl ⟨rfl,rfl,rfl,rfl,rfl⟩ rfl rfl rfl rfl rfl oS Tryz.func8 vQ
  (of_decide_eq_true (by kernel_rfl)) (by unfold Func.isWrapper;first|(rw[if_pos (by decide+kernel)];kernel_rfl)|(rw[if_neg (by decide+kernel)];exact⟨rfl,rfl⟩))
  (fun os started H enc _=>vS os started H enc)
theorem machineProgram_proved:Rows.MachineProgramCardSaid:=
 Claim7.holds_tied_plain_at .later [] Rows.machineProgramCard.laidKinds true Rows.machineProgramCard.stood.harness false
  zF (fun _ h=>by cases h) (by kernel_rfl) (fun _ h=>by cases h) machineProgram_row_tie rfl ⟨rfl,rfl⟩ km rfl
  (fun f fn hf hfn=>by
   obtain rfl:f=8:=Option.some.inj (oS.symm.trans hf)|>.symm
   obtain rfl:fn=Tryz.f8:=(Option.some.inj (Tryz.func8.symm.trans hfn)).symm
   exact⟨Yl,fun j t ht=>by
    rw[Tryz.params8] at ht
    have hm:t∈[62,35]:=by simpa using Array.mem_of_getElem? ht
    have hall:([62,35].all fun u=> !Tryz.prog.wantsStandIn u)=true:=by kernel_rfl
    exact(show Tryz.prog.wantsStandIn t=false by simpa using List.all_eq_true.1 hall t hm)⟩)
  zC
end Go.Proofs.YtajjljbmfdboaaaGreatDoor
end
