/- ScriptBack: for every input the law answers true, and each argument reads afterwards as it read before. No condition but the listed variables' text. -/
import Derived.Test.YtcjlkjeeifemhaaGreatDoorB14
import Derived.Test.YtcjlkjeeifemhaaGreatDoorB15
import Derived.Lay
import Derived.LaidOnce
import Derived.ChangeMaps5
namespace Go.Proofs.YtcjlkjeeifemhaaGreatDoor
open Go Go.Ab Go.Hm Go.Is Go.At Go.Mc Go.RowKit
section
set_option maxRecDepth 100000 in
theorem uK (os:Os) (started:os.Started) (H:Type) (enc:TypeId×Value->H):
  ReturnsInHanded {} Tryz.checked os 6 .any (fun w a=>(Rows.scriptBackSpec.pre enc Tryz.prog Tryz.f6 [] false w a/\laidMetH Tryz.prog Rows.scriptBackRow.laid w)/\sizedMet enc Tryz.prog Tryz.f6 (OpenSpec.ofChange Rows.scriptBackSpec) false w a)
   (Rows.scriptBackSpec.post enc Tryz.prog Tryz.f6 false true false false):=by
 refine Mv (C:=Tryz.checked) started own (by kernel_rfl) Tryz.func6 laidOut (by kernel_rfl) rfl Tryz.underlying4 rfl (fun g p=>by
   match g,p with
   |[d1,d2],_=>rfl)
  (ChangeSpec.witness_shaped (enc:=enc) (C:=Tryz.checked) (os:=os) (X:=fun w _=>laidMetH Tryz.prog Rows.scriptBackRow.laid w) false (World.laidAll Tryz.prog os Rows.scriptBackRow.laid) #[.agg #[.int .i64 0,.int .i64 0,.int .i64 0,.int .i64 0,.int .i64 0,.int .i64 0,.int .i64 0,.slice none 0 0,.slice none 0 0,.slice none 0 0,.slice none 0 0,.slice none 0 0],.string ⟨#[]⟩] 8 (World.laidAll_os _ _ _)
   (World.shaped_of_ZipB (by kernel_rfl) (by kernel_rfl)) (by kernel_rfl) (by kernel_rfl) (by kernel_rfl)
   (by rw[MakeChecks.laidMetH_plain _ _ _ (by kernel_rfl)];exact laidMet_laidAll _ (by kernel_rfl) (by kernel_rfl))) ?_
 intro W f a g t hA b o
 rw[show(Tryz.f6.params.toList)=[38,9] from by rw[Tryz.params6]] at hA
 rw[Tryz.params6] at b
 obtain⟨v0,y,i,k,T,V,rfl,rfl,rfl,m,u⟩:=ChangeShapes.trodAll_cons hA
 obtain⟨v1,z,j,l,p1,Y,rfl,rfl,rfl,n,v⟩:=ChangeShapes.trodAll_cons u
 obtain⟨rfl,rfl,rfl⟩:=ChangeShapes.trodAll_nil v
 obtain⟨C,D,P,K,F,R,cW,B,O,J,E,Q,L,A,N,cD,rfl,hR⟩:=Ii (b 0 _ v0 rfl rfl) m
 obtain⟨e,rfl,rfl,rfl,w1⟩:=ChangeMaps.open_string Tryz.underlying9 (b 1 _ v1 rfl rfl) n
 have d:Gl W:=iu (by kernel_rfl) o (by simp[Rows.scriptBackRow]) (by simp[Rows.scriptBackRow]) (by simp[Rows.scriptBackRow]) (by simp[Rows.scriptBackRow]) (by simp[Rows.scriptBackRow]) (by simp[Rows.scriptBackRow]) (by simp[Rows.scriptBackRow]) (by simp[Rows.scriptBackRow])
 exact Mn d hR (fun c=>[c,.string e]) (fun ρ c I h=>aC.cons h (gS [.string e] rfl)) fun G h U wv S vv M t ws os Z dl q hG d hA s r=>Cb (x:=e.data.toList) q hG d hA r fun _=>rfl
set_option maxRecDepth 100000
theorem Ce:(Rows.scriptBackRow.inPlace==Tryz.prog.inPlace 6)=true:=by kernel_rfl
theorem C4:(Rows.scriptBackRow.unfollowed==Tryz.prog.unfollowed 6)=true:=by kernel_rfl
theorem Cu:(Rows.scriptBackRow.recurses==Tryz.prog.recurses 6)=true:=by kernel_rfl
theorem Cm:(Rows.scriptBackRow.named==Tryz.prog.varsNamed 6)=true:=by kernel_rfl
theorem yG:false=Rows.scriptBackRow.goesBy Tryz.prog:=by kernel_rfl
theorem oM:Tryz.prog.funcNamed "donjon/donjonlaw20.ScriptBack"=some 6:=by kernel_rfl
theorem uD:joinedFacts Tryz.prog 6 Tryz.f6 Rows.scriptBackSpec Rows.scriptBackRow=true:=
 (gV (gV (gV (gV (gV (gV (gV (gV (gV (gV (gV (gV (gV (gV (gV (gV (gV (gV (gV (gV (gV (gV (gV (gV (gV (gV (gV (gV (gV (gV (gV (by kernel_rfl) laidOut) bu) (by kernel_rfl)) (by kernel_rfl)) (by kernel_rfl)) W1) (by kernel_rfl)) Y4) Ce) C4) Cu) Cm) (by kernel_rfl)) (by kernel_rfl)) (by kernel_rfl)) (by kernel_rfl)) (by kernel_rfl)) (by kernel_rfl)) (by kernel_rfl)) (by kernel_rfl)) (by kernel_rfl)) W7) (by kernel_rfl)) Xh) W2) Ww) ee) (by kernel_rfl)) (by kernel_rfl)) (by kernel_rfl)) (by kernel_rfl))
theorem yB:Rows.scriptBackRow.holds Tryz.pinned (OpenSpec.ofChange Rows.scriptBackSpec):=
 OpenClaim.holds_of_wide 6 Tryz.f6 rfl rfl rfl rfl rfl rfl rfl ⟨rfl,rfl,rfl,rfl,rfl⟩ rfl rfl rfl rfl rfl oM Tryz.func6 uD
  (of_decide_eq_true (by kernel_rfl)) (by unfold Func.isWrapper;first|(rw[tu (by decide+kernel)];kernel_rfl)|(rw[tt (by decide+kernel)];exact⟨rfl,rfl⟩))
  (fun a started H enc _=>uK a started H enc)
theorem scriptBack_proved:Rows.ScriptBackCardSaid:=
 Claim7.holds_tied_plain_at .later [] Rows.scriptBackCard.laidKinds true Rows.scriptBackCard.stood.harness true
  yB (fun _ h=>by cases h) (by kernel_rfl) (fun _ h=>by cases h) scriptBack_row_tie rfl ⟨rfl,rfl⟩ cx rfl
  (fun f d e b=>by
   obtain rfl:f=6:=Option.some.inj (oM.symm.trans e)|>.symm;obtain rfl:d=Tryz.f6:=(Option.some.inj (Tryz.func6.symm.trans b)).symm;exact⟨Xz,fun j t c=>by
    rw[Tryz.params6] at c;have g:t∈[38,9]:=by simpa using Array.mem_of_getElem? c
    have a:([38,9].all fun u=> !Tryz.prog.wantsStandIn u)=true:=by kernel_rfl
    exact(show Tryz.prog.wantsStandIn t=false by simpa using List.all_eq_true.1 a t g)⟩)
  yG
end
end Go.Proofs.YtcjlkjeeifemhaaGreatDoor
