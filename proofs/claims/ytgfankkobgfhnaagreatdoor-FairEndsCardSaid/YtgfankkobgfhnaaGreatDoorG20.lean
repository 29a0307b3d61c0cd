/- FairEnds: for every input the law answers true, and each argument reads afterwards as it read before. No condition but the listed variables' text. -/
import Derived.Test.YtgfankkobgfhnaaGreatDoorG19
import Derived.Test.YtgfankkobgfhnaaGreatDoorG17
set_option linter.all false
set_option maxRecDepth 100000
open Go Go.Ab
namespace Go.Proofs.YtgfankkobgfhnaaGreatDoor
open Go.Proofs.Z
open Go.Hm Go.Is Go.At Go.Mc Go.RowKit
def Vk (os:Os) (args:EZ):laidMetH Tryz.prog Rows.fairEndsRow.laid ((World.doorLaid Tryz.prog 4000 os).forCall (fun _ _=>0) ⟨#[],args,[]⟩).memory:=
 laidMetH_of_parts3 (fuel:=8) (laidMet_of_run' 8 FD FD) FD FD
set_option maxRecDepth 100000 in
def P6 (os:Os) (started:os.Started) (H:Type) (enc:TypeId×Value->H):
  ReturnsInHanded {} Tryz.checked os 3 .any (fun w f=>(Rows.fairEndsSpec.pre enc Tryz.prog Tryz.f3 [] false w f/\laidMetH Tryz.prog Rows.fairEndsRow.laid w)/\sizedMet enc Tryz.prog Tryz.f3 (OpenSpec.ofChange Rows.fairEndsSpec) false w f)
   (Rows.fairEndsSpec.post enc Tryz.prog Tryz.f3 false true false false):=by
 refine uy (C:=Tryz.checked) started Ve FD Tryz.func3 aAn FD rfl Tryz.underlying4 rfl (fun q j=>by
   match q,j with
   |[d1,d2],_=>rfl)
  (ChangeSpec.witness_shaped (enc:=enc) (C:=Tryz.checked) (os:=os) (X:=fun w _=>laidMetH Tryz.prog Rows.fairEndsRow.laid w) false (World.doorLaid Tryz.prog 4000 os) #[.agg #[.int .i64 0,.int .i64 0,.int .i64 0,.int .i64 0,.int .i64 0,.int .i64 0,.int .i64 0,.slice none 0 0,.slice none 0 0,.slice none 0 0,.slice none 0 0],.slice none 0 0] 8 rfl (World.shaped_of_RefB FD FD) FD FD FD (Vk os _)) ?_
 intro W p f q L hA g A
 rw[show(Tryz.f3.params.toList)=[27,28] from by rw[Tryz.params3]] at hA
 rw[Tryz.params3] at g
 obtain⟨v0,O,t,v,p0,q0,rfl,rfl,rfl,y,M⟩:=ChangeShapes.trodAll_cons hA
 obtain⟨v1,P,u,x,p1,q1,rfl,rfl,rfl,z,N⟩:=ChangeShapes.trodAll_cons M
 obtain⟨rfl,rfl,rfl⟩:=ChangeShapes.trodAll_nil N
 obtain⟨C,R,lP,Y,T,lW,cW,Q,lO,V,S,lV,Z,rfl,F,hP,E,B,D⟩:=aCm (g 0 _ v0 rfl rfl) y
 obtain⟨r,K,s,rfl,i⟩:=aC7 Tryz.underlying28 aTi aLd FC (g 1 _ v1 rfl rfl) z
 have k:Gl W:=aV0 FD A GO GO GO GO
 exact qf k F hP E B D i aK7 (fun c d _=>[c,d]) (fun ρ c U d d' e e' a b _=>bV.cons a<|bV.cons b bV.nil) fun G h pv wv ov vv lv nv L ws os vs l n I o hG k m j _ J=>m8 I o hG k m j J fun _=>rfl
def nk:(Rows.fairEndsRow.inPlace==Tryz.prog.inPlace 3)=true:=FD
def kz:(Rows.fairEndsRow.unfollowed==Tryz.prog.unfollowed 3)=true:=FD
def jy:(Rows.fairEndsRow.recurses==Tryz.prog.recurses 3)=true:=FD
def m9:(Rows.fairEndsRow.named==Tryz.prog.varsNamed 3)=true:=FD
def Vy:false=Rows.fairEndsRow.goesBy Tryz.prog:=FD
def Hf:Tryz.prog.funcNamed "donjon/donjonlaw19.FairEnds"=some 3:=FD
def Qh:joinedFacts Tryz.prog 3 Tryz.f3 Rows.fairEndsSpec Rows.fairEndsRow=true:=
 (sZ (sZ (sZ (sZ (sZ (sZ (sZ (sZ (sZ (sZ (sZ (sZ (sZ (sZ (sZ (sZ (sZ (sZ (sZ (sZ (sZ (sZ (sZ (sZ (sZ (sZ (sZ (sZ (sZ (sZ (sZ FD aAn) aSw) FD) FD) FD) aOx) FD) aNm) nk) kz) jy) m9) FD) FD) FD) FD) FD) FD) FD) FD) FD) aM9) FD) aNf) aMk) aOl) aTp) FD) FD) FD) FD)
def Vs:Rows.fairEndsRow.holds Tryz.pinned (OpenSpec.ofChange Rows.fairEndsSpec):=
 OpenClaim.holds_of_wide 3 Tryz.f3 rfl rfl rfl rfl rfl rfl rfl ⟨rfl,rfl,rfl,rfl,rfl⟩ rfl rfl rfl rfl rfl Hf Tryz.func3 Qh
  (cP FD) (by unfold Func.isWrapper;first|(rw[bA1<|by decide+kernel];kernel_rfl)|(rw[bA0<|by decide+kernel];exact⟨rfl,rfl⟩))
  (fun a started H enc _=>P6 a started H enc)
theorem fairEnds_proved:Rows.FairEndsCardSaid:=
 Claim7.holds_tied_plain_at .later [] Rows.fairEndsCard.laidKinds true Rows.fairEndsCard.stood.harness false
  Vs (fun _ h=>FH) FD (fun _ h=>FH) fairEnds_row_tie rfl ⟨rfl,rfl⟩ aTk rfl
  (fun f d e b=>by
   obtain rfl:f=3:=Option.some.inj (Hf.symm.trans e)|>.symm;obtain rfl:d=Tryz.f3:=(Option.some.inj<|Tryz.func3.symm.trans b).symm;exact⟨aOf,fun j t c=>by
    rw[Tryz.params3] at c;have g:t∈[27,28]:=by simpa using Array.mem_of_getElem? c
    have a:([27,28].all fun u=> !Tryz.prog.wantsStandIn u)=true:=FD
    exact(show Tryz.prog.wantsStandIn t=false by simpa using ss.1 a t g)⟩)
  Vy
end Go.Proofs.YtgfankkobgfhnaaGreatDoor
