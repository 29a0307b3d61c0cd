/- ScriptRuns, ScriptBegins: both. -/
import Derived.Test.YtcjlkjeeifemhaaGreatDoorR18
import Derived.Test.YtcjlkjeeifemhaaGreatDoorR19
import Derived.Lay
import Derived.LaidOnce
import Derived.ChangeMaps5
namespace Go.Proofs.YtcjlkjeeifemhaaGreatDoor
open Go Go.Ab Go.Hm Go.Is Go.At Go.Mc Go.RowKit
section
set_option maxRecDepth 100000 in
theorem Bn (os:Os) (started:os.Started) (H:Type) (enc:TypeId×Value->H):
  ReturnsInHanded {} Tryz.checked os 5 .any (fun w a=>(Rows.scriptBeginsSpec.pre enc Tryz.prog Tryz.f5 [] false w a/\laidMetH Tryz.prog Rows.scriptBeginsRow.laid w)/\sizedMet enc Tryz.prog Tryz.f5 (OpenSpec.ofChange Rows.scriptBeginsSpec) false w a)
   (Rows.scriptBeginsSpec.post enc Tryz.prog Tryz.f5 false true false false):=by
 refine Kt (C:=Tryz.checked) started own (by kernel_rfl) Tryz.func5 laidOut (by kernel_rfl) rfl Tryz.underlying4 rfl (fun g q=>by
   match g,q with
   |[d1,d2],_=>rfl)
  (ChangeSpec.witness_shaped (enc:=enc) (C:=Tryz.checked) (os:=os) (X:=fun w _=>laidMetH Tryz.prog Rows.scriptBeginsRow.laid w) false (World.laidAll Tryz.prog os Rows.scriptBeginsRow.laid) #[.agg #[.int .i64 0,.int .i64 0,.int .i64 0,.int .i64 0,.int .i64 0,.int .i64 0,.int .i64 0,.slice none 0 0,.slice none 0 0,.slice none 0 0,.slice none 0 0,.slice none 0 0],.int .i64 0] 8 (World.laidAll_os _ _ _)
   (World.shaped_of_ZipB (by kernel_rfl) (by kernel_rfl)) (by kernel_rfl) (by kernel_rfl) (by kernel_rfl)
   (by rw[MakeChecks.laidMetH_plain _ _ _ (by kernel_rfl)];exact laidMet_laidAll _ (by kernel_rfl) (by kernel_rfl))) ?_
 intro W f a g t hA b p
 rw[show(Tryz.f5.params.toList)=[38,3] from by rw[Tryz.params5]] at hA
 rw[Tryz.params5] at b
 obtain⟨v0,x,j,l,T,V,rfl,rfl,rfl,n,u⟩:=ChangeShapes.trodAll_cons hA
 obtain⟨v1,y,k,m,p1,Y,rfl,rfl,rfl,o,v⟩:=ChangeShapes.trodAll_cons u
 obtain⟨rfl,rfl,rfl⟩:=ChangeShapes.trodAll_nil v
 obtain⟨C,B,P,K,E,R,cW,A,O,J,D,Q,L,z,N,cD,rfl,hR⟩:=Gx (b 0 _ v0 rfl rfl) n
 obtain⟨i,rfl,rfl,rfl,w1⟩:=ChangeShapes.open_int Tryz.underlying3 (b 1 _ v1 rfl rfl) o
 have d:Gl W:=aEh (by kernel_rfl) p (by simp[Rows.scriptBeginsRow]) (by simp[Rows.scriptBeginsRow]) (by simp[Rows.scriptBeginsRow]) (by simp[Rows.scriptBeginsRow]) (by simp[Rows.scriptBeginsRow]) (by simp[Rows.scriptBeginsRow]) (by simp[Rows.scriptBeginsRow]) (by simp[Rows.scriptBeginsRow])
 exact La d hR (fun c=>[c,I i]) (fun ρ c F h=>aR.cons h (mX [I i] rfl)) fun G h U wv S vv M t ws os Z dl r hG d hA e s=>H4 r hG d hA e s fun _=>rfl
set_option maxRecDepth 100000
theorem Hz:(Rows.scriptBeginsRow.inPlace==Tryz.prog.inPlace 5)=true:=by kernel_rfl
theorem Ht:(Rows.scriptBeginsRow.unfollowed==Tryz.prog.unfollowed 5)=true:=by kernel_rfl
theorem Hp:(Rows.scriptBeginsRow.recurses==Tryz.prog.recurses 5)=true:=by kernel_rfl
theorem H2:(Rows.scriptBeginsRow.named==Tryz.prog.varsNamed 5)=true:=by kernel_rfl
theorem Ed:false=Rows.scriptBeginsRow.goesBy Tryz.prog:=by kernel_rfl
theorem sU:Tryz.prog.funcNamed "donjon/donjonlaw20.ScriptBegins"=some 5:=by kernel_rfl
theorem Bl:joinedFacts Tryz.prog 5 Tryz.f5 Rows.scriptBeginsSpec Rows.scriptBeginsRow=true:=
 (fB (fB (fB (fB (fB (fB (fB (fB (fB (fB (fB (fB (fB (fB (fB (fB (fB (fB (fB (fB (fB (fB (fB (fB (fB (fB (fB (fB (fB (fB (fB (by kernel_rfl) laidOut) wu) (by kernel_rfl)) (by kernel_rfl)) (by kernel_rfl)) ff) (by kernel_rfl)) ew) Hz) Ht) Hp) H2) (by kernel_rfl)) (by kernel_rfl)) (by kernel_rfl)) (by kernel_rfl)) (by kernel_rfl)) (by kernel_rfl)) (by kernel_rfl)) (by kernel_rfl)) (by kernel_rfl)) fu) (by kernel_rfl)) fx) ep) fe) xe) (by kernel_rfl)) (by kernel_rfl)) (by kernel_rfl)) (by kernel_rfl))
theorem D7:Rows.scriptBeginsRow.holds Tryz.pinned (OpenSpec.ofChange Rows.scriptBeginsSpec):=
 OpenClaim.holds_of_wide 5 Tryz.f5 rfl rfl rfl rfl rfl rfl rfl ⟨rfl,rfl,rfl,rfl,rfl⟩ rfl rfl rfl rfl rfl sU Tryz.func5 Bl
  (of_decide_eq_true (by kernel_rfl)) (by unfold Func.isWrapper;first|(rw[aNa (by decide+kernel)];kernel_rfl)|(rw[aN9 (by decide+kernel)];exact⟨rfl,rfl⟩))
  (fun a started H enc _=>Bn a started H enc)
theorem scriptBegins_proved:Rows.ScriptBeginsCardSaid:=
 Claim7.holds_tied_plain_at .later [] Rows.scriptBeginsCard.laidKinds true Rows.scriptBeginsCard.stood.harness true
  D7 (fun _ h=>by cases h) (by kernel_rfl) (fun _ h=>by cases h) scriptBegins_row_tie rfl ⟨rfl,rfl⟩ q5 rfl
  (fun f d e b=>by
   obtain rfl:f=5:=Option.some.inj (sU.symm.trans e)|>.symm;obtain rfl:d=Tryz.f5:=(Option.some.inj (Tryz.func5.symm.trans b)).symm;exact⟨da,fun j t c=>by
    rw[Tryz.params5] at c;have g:t∈[38,3]:=by simpa using Array.mem_of_getElem? c
    have a:([38,3].all fun u=> !Tryz.prog.wantsStandIn u)=true:=by kernel_rfl
    exact(show Tryz.prog.wantsStandIn t=false by simpa using List.all_eq_true.1 a t g)⟩)
  Ed
end
end Go.Proofs.YtcjlkjeeifemhaaGreatDoor
section
namespace Go.Proofs.YtcjlkjeeifemhaaGreatDoor
theorem both_proved:Rows.ScriptRunsCardSaid/\Rows.ScriptBeginsCardSaid:=⟨scriptRuns_proved,scriptBegins_proved⟩
end Go.Proofs.YtcjlkjeeifemhaaGreatDoor
end
