/- ScriptEvent: for every input the law answers true, and each argument reads afterwards as it read before. No condition but the listed variables' text. -/
import Derived.Test.YtcjlkjeeifemhaaGreatDoorE13
import Derived.Lay
import Derived.LaidOnce
namespace Go.Proofs.YtcjlkjeeifemhaaGreatDoor
open Go Go.Ab Go.Is Go.At Go.Sc Go.RowKit
section
set_option maxRecDepth 100000 in
theorem jM (os:Os) (started:os.Started) (H:Type) (enc:TypeId×Value->H):
  ReturnsInHanded {} Tryz.checked os 3 .any (fun w a=>(Rows.scriptEventSpec.pre enc Tryz.prog Tryz.f3 [] false w a/\laidMetH Tryz.prog Rows.scriptEventRow.laid w)/\sizedMet enc Tryz.prog Tryz.f3 (OpenSpec.ofChange Rows.scriptEventSpec) false w a)
   (Rows.scriptEventSpec.post enc Tryz.prog Tryz.f3 false true false false):=by
 refine wI (C:=Tryz.checked) started own (by kernel_rfl) Tryz.func3 laidOut (by kernel_rfl) rfl Tryz.underlying4 rfl (fun i o=>by
   match i,o with
   |[d1,d2],_=>rfl)
  (ChangeSpec.witness_shaped (enc:=enc) (C:=Tryz.checked) (os:=os) (X:=fun w _=>laidMetH Tryz.prog Rows.scriptEventRow.laid w) false (World.laidAll Tryz.prog os Rows.scriptEventRow.laid) #[.agg #[.int .i64 0,.int .i64 0,.int .i64 0,.int .i64 0,.int .i64 0,.int .i64 0,.int .i64 0],.agg #[.int .i64 0,.int .i64 0,.int .i64 0,.int .i64 0,.int .i64 0,.int .i64 0,.int .i64 0]] 8 (World.laidAll_os _ _ _)
   (World.shaped_of_ZipB (by kernel_rfl) (by kernel_rfl)) (by kernel_rfl) (by kernel_rfl) (by kernel_rfl)
   (by rw[MakeChecks.laidMetH_plain _ _ _ (by kernel_rfl)];exact laidMet_laidAll _ (by kernel_rfl) (by kernel_rfl))) ?_
 intro W g a i A hA b n
 rw[show(Tryz.f3.params.toList)=[24,24] from by rw[Tryz.params3]] at hA
 rw[Tryz.params3] at b
 obtain⟨v0,s,d0,j,z,B,rfl,rfl,rfl,l,q⟩:=ChangeShapes.trodAll_cons hA
 obtain⟨v1,t,d1,k,p1,D,rfl,rfl,rfl,m,r⟩:=ChangeShapes.trodAll_cons q
 obtain⟨rfl,rfl,rfl⟩:=ChangeShapes.trodAll_nil r
 obtain⟨x,rfl,c⟩:=kP Tryz.underlying24 By (b 0 _ v0 rfl rfl) l
 obtain⟨u,rfl,e⟩:=Ea c
 obtain⟨y,rfl,d⟩:=kP Tryz.underlying24 By (b 1 _ v1 rfl rfl) m
 obtain⟨v,rfl,f⟩:=Ea d
 exact yT (H3 (by kernel_rfl) n (by simp[Rows.scriptEventRow]) (by simp[Rows.scriptEventRow]) (by simp[Rows.scriptEventRow]) (by simp[Rows.scriptEventRow])) (args:=[.agg ⟨u.enc⟩,.agg ⟨v.enc⟩]) rfl fun G h p=>nH e f p fun _=>rfl
set_option maxRecDepth 100000
theorem oR:(Rows.scriptEventRow.inPlace==Tryz.prog.inPlace 3)=true:=by kernel_rfl
theorem nT:(Rows.scriptEventRow.unfollowed==Tryz.prog.unfollowed 3)=true:=by kernel_rfl
theorem oA:(Rows.scriptEventRow.recurses==Tryz.prog.recurses 3)=true:=by kernel_rfl
theorem oW:(Rows.scriptEventRow.named==Tryz.prog.varsNamed 3)=true:=by kernel_rfl
theorem lK:false=Rows.scriptEventRow.goesBy Tryz.prog:=by kernel_rfl
theorem fG:Tryz.prog.funcNamed "donjon/donjonlaw20.ScriptEvent"=some 3:=by kernel_rfl
theorem kC:joinedFacts Tryz.prog 3 Tryz.f3 Rows.scriptEventSpec Rows.scriptEventRow=true:=
 (dE (dE (dE (dE (dE (dE (dE (dE (dE (dE (dE (dE (dE (dE (dE (dE (dE (dE (dE (dE (dE (dE (dE (dE (dE (dE (dE (dE (dE (dE (dE (by kernel_rfl) laidOut) F9) (by kernel_rfl)) (by kernel_rfl)) (by kernel_rfl)) Dh) (by kernel_rfl)) D0) oR) nT) oA) oW) (by kernel_rfl)) (by kernel_rfl)) (by kernel_rfl)) (by kernel_rfl)) (by kernel_rfl)) (by kernel_rfl)) (by kernel_rfl)) (by kernel_rfl)) (by kernel_rfl)) Dm) (by kernel_rfl)) C8) Du) Dq) Gb) (by kernel_rfl)) (by kernel_rfl)) (by kernel_rfl)) (by kernel_rfl))
theorem lV:Rows.scriptEventRow.holds Tryz.pinned (OpenSpec.ofChange Rows.scriptEventSpec):=
 OpenClaim.holds_of_wide 3 Tryz.f3 rfl rfl rfl rfl rfl rfl rfl ⟨rfl,rfl,rfl,rfl,rfl⟩ rfl rfl rfl rfl rfl fG Tryz.func3 kC
  (of_decide_eq_true (by kernel_rfl)) (by unfold Func.isWrapper;first|(rw[Kx (by decide+kernel)];kernel_rfl)|(rw[Kw (by decide+kernel)];exact⟨rfl,rfl⟩))
  (fun a started H enc _=>jM a started H enc)
theorem scriptEvent_proved:Rows.ScriptEventCardSaid:=
 Claim7.holds_tied_plain_at .later [] Rows.scriptEventCard.laidKinds true Rows.scriptEventCard.stood.harness true
  lV (fun _ h=>by cases h) (by kernel_rfl) (fun _ h=>by cases h) scriptEvent_row_tie rfl ⟨rfl,rfl⟩ Fp rfl
  (fun f d e b=>by
   obtain rfl:f=3:=Option.some.inj (fG.symm.trans e)|>.symm;obtain rfl:d=Tryz.f3:=(Option.some.inj (Tryz.func3.symm.trans b)).symm;exact⟨Dt,fun j t c=>by
    rw[Tryz.params3] at c;have g:t∈[24,24]:=by simpa using Array.mem_of_getElem? c
    have a:([24,24].all fun u=> !Tryz.prog.wantsStandIn u)=true:=by kernel_rfl
    exact(show Tryz.prog.wantsStandIn t=false by simpa using List.all_eq_true.1 a t g)⟩)
  lK
end
end Go.Proofs.YtcjlkjeeifemhaaGreatDoor
