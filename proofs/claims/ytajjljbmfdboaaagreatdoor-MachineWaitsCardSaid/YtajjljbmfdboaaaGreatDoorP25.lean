/- MachineWaits: for every input the law answers true, and each argument reads afterwards as it read before. No condition but the listed variables' text. -/
import Derived.Test.YtajjljbmfdboaaaGreatDoorP23
import Derived.Test.YtajjljbmfdboaaaGreatDoorP19
section
namespace Go.Proofs.YtajjljbmfdboaaaGreatDoor
open Go Go.Ab Go.Hm Go.Is Go.At Go.Mc Go.RowKit
theorem Dk (os:Os) (args:Array Value):laidMetH Tryz.prog Rows.machineWaitsRow.laid ((World.doorLaid Tryz.prog 4000 os).forCall (fun _ _=>0) ⟨#[],args,[]⟩).memory:=
 laidMetH_of_parts3 (fuel:=8) (laidMet_of_run' 8 (by kernel_rfl) (by kernel_rfl)) (by kernel_rfl) (by kernel_rfl)
set_option maxRecDepth 100000 in
theorem zJ (os:Os) (started:os.Started) (H:Type) (enc:TypeId×Value→H):
  ReturnsInHanded {} Tryz.checked os 9 .any (fun w args=>(Rows.machineWaitsSpec.pre enc Tryz.prog Tryz.f9 [] false w args∧laidMetH Tryz.prog Rows.machineWaitsRow.laid w)∧sizedMet enc Tryz.prog Tryz.f9 (OpenSpec.ofChange Rows.machineWaitsSpec) false w args)
   (Rows.machineWaitsSpec.post enc Tryz.prog Tryz.f9 false true false false):=by
 refine Ie (C:=Tryz.checked) started own (by kernel_rfl) Tryz.func9 laidOut (by kernel_rfl) rfl Tryz.underlying4 rfl (fun ds hd=>by
   match ds,hd with
   |[d1,d2],_=>rfl)
  (ChangeSpec.witness_shaped (enc:=enc) (C:=Tryz.checked) (os:=os) (X:=fun w _=>laidMetH Tryz.prog Rows.machineWaitsRow.laid w) false (World.doorLaid Tryz.prog 4000 os) #[.agg #[.int .i64 0,.int .i64 0,.int .i64 0,.int .i64 0,.int .i64 0,.int .i64 0,.int .i64 0,.slice none 0 0,.slice none 0 0,.slice none 0 0,.slice none 0 0],.slice none 0 0] 8 rfl (World.shaped_of_RefB (by kernel_rfl) (by kernel_rfl)) (by kernel_rfl) (by kernel_rfl) (by kernel_rfl) (Dk os _)) ?_
 intro W base args ds ps hA hval hL
 rw[show(Tryz.f9.params.toList)=[62,35] from by rw[Tryz.params9]] at hA
 rw[Tryz.params9] at hval
 obtain⟨v0,vs0,dd0,ds0,p0,q0,rfl,rfl,rfl,h0,r0⟩:=ChangeShapes.trodAll_cons hA
 obtain⟨v1,vs1,dd1,ds1,p1,q1,rfl,rfl,rfl,h1,r1⟩:=ChangeShapes.trodAll_cons r0
 obtain⟨rfl,rfl,rfl⟩:=ChangeShapes.trodAll_nil r1
 obtain⟨C,aP,lP,cP,aW,lW,cW,aO,lO,cO,aV,lV,cV,rfl,hm,hP,hW,hO,hV⟩:=Kz (hval 0 _ v0 rfl rfl) h0
 obtain⟨aD1,lD1,cD1,rfl,hD1⟩:=Mv Tryz.underlying35 re Yr (by decide) (hval 1 _ v1 rfl rfl) h1
 have hg:Gl W:=xk (by kernel_rfl) hL (by simp[Rows.machineWaitsRow]) (by simp[Rows.machineWaitsRow]) (by simp[Rows.machineWaitsRow]) (by simp[Rows.machineWaitsRow])
 exact H4 hg hm hP hW hO hV hD1 Tx (fun c d _=>[c,d]) (fun ρ c c' d d' e e' a b _=>aT.cons a (aT.cons b aT.nil)) fun G h pv wv ov vv lv nv ps ws os vs l n hn hG hg hom hd _ hs=>Fk hn hG hg hom hd hs fun _=>rfl
set_option maxRecDepth 100000
theorem Fw:(Rows.machineWaitsRow.inPlace==Tryz.prog.inPlace 9)=true:=by kernel_rfl
theorem Fv:(Rows.machineWaitsRow.unfollowed==Tryz.prog.unfollowed 9)=true:=by kernel_rfl
theorem Fu:(Rows.machineWaitsRow.recurses==Tryz.prog.recurses 9)=true:=by kernel_rfl
theorem F1:(Rows.machineWaitsRow.named==Tryz.prog.varsNamed 9)=true:=by kernel_rfl
theorem De:false=Rows.machineWaitsRow.goesBy Tryz.prog:=by kernel_rfl
theorem qU:Tryz.prog.funcNamed "donjon/donjonlaw16.MachineWaits"=some 9:=by kernel_rfl
theorem zI:joinedFacts Tryz.prog 9 Tryz.f9 Rows.machineWaitsSpec Rows.machineWaitsRow=true:=
 (eX (eX (eX (eX (eX (eX (eX (eX (eX (eX (eX (eX (eX (eX (eX (eX (eX (eX (eX (eX (eX (eX (eX (eX (eX (eX (eX (eX (eX (eX (eX (by kernel_rfl) laidOut) ny) (by kernel_rfl)) (by kernel_rfl)) (by kernel_rfl)) X0) (by kernel_rfl)) Xs) Fw) Fv) Fu) F1) (by kernel_rfl)) (by kernel_rfl)) (by kernel_rfl)) (by kernel_rfl)) (by kernel_rfl)) (by kernel_rfl)) (by kernel_rfl)) (by kernel_rfl)) (by kernel_rfl)) Y5) (by kernel_rfl)) Y7) Xk) Xc) nc) (by kernel_rfl)) (by kernel_rfl)) (by kernel_rfl)) (by kernel_rfl))
theorem C5:Rows.machineWaitsRow.holds Tryz.pinned (OpenSpec.ofChange Rows.machineWaitsSpec):=
 OpenClaim.holds_of_wide 9 Tryz.f9 rfl rfl rfl rfl rfl rfl rfl ⟨rfl,rfl,rfl,rfl,rfl⟩ rfl rfl rfl rfl rfl qU Tryz.func9 zI
  (of_decide_eq_true (by kernel_rfl)) (by unfold Func.isWrapper;first|(rw[if_pos (by decide+kernel)];kernel_rfl)|(rw[if_neg (by decide+kernel)];exact⟨rfl,rfl⟩))
  (fun os started H enc _=>zJ os started H enc)
theorem machineWaits_proved:Rows.MachineWaitsCardSaid:=
 Claim7.holds_tied_plain_at .later [] Rows.machineWaitsCard.laidKinds true Rows.machineWaitsCard.stood.harness false
  C5 (fun _ h=>by cases h) (by kernel_rfl) (fun _ h=>by cases h) machineWaits_row_tie rfl ⟨rfl,rfl⟩ km rfl
  (fun f fn hf hfn=>by
   obtain rfl:f=9:=Option.some.inj (qU.symm.trans hf)|>.symm
   obtain rfl:fn=Tryz.f9:=(Option.some.inj (Tryz.func9.symm.trans hfn)).symm
   exact⟨Yl,fun j t ht=>by
    rw[Tryz.params9] at ht
    have hm:t∈[62,35]:=by simpa using Array.mem_of_getElem? ht
    have hall:([62,35].all fun u=> !Tryz.prog.wantsStandIn u)=true:=by kernel_rfl
    exact(show Tryz.prog.wantsStandIn t=false by simpa using List.all_eq_true.1 hall t hm)⟩)
  De
end Go.Proofs.YtajjljbmfdboaaaGreatDoor
end
