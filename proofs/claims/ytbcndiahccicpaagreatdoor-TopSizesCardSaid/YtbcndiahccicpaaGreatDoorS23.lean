/- TopSizes: for every input the law answers true, and each argument reads afterwards as it read before. No condition but the listed variables' text. -/
import Derived.Test.YtbcndiahccicpaaGreatDoorS22
import Derived.Lay
import Derived.LaidOnce
import Derived.ChangeMaps5
set_option linter.all false
set_option maxRecDepth 100000
open Go Go.Ab
namespace Go.Proofs.YtbcndiahccicpaaGreatDoor
open Go.Proofs.Z
open Go.Hm Go.Is Go.At Go.Mc Go.RowKit
set_option maxRecDepth 100000 in
def Qr (os:Os) (started:os.Started) (H:Type) (enc:TypeId×Value->H):
  ReturnsInHanded {} Tryz.checked os 3 .any (fun w f=>(Rows.topSizesSpec.pre enc Tryz.prog Tryz.f3 [] false w f/\laidMetH Tryz.prog Rows.topSizesRow.laid w)/\sizedMet enc Tryz.prog Tryz.f3 (OpenSpec.ofChange Rows.topSizesSpec) false w f)
   (Rows.topSizesSpec.post enc Tryz.prog Tryz.f3 false true false false):=by
 refine wk (C:=Tryz.checked) started V0 FU Tryz.func3 aBr FU rfl Tryz.underlying4 rfl (fun p j=>by
   match p,j with
   |[d1,d2,d3],_=>rfl)
  (ChangeSpec.witness_shaped (enc:=enc) (C:=Tryz.checked) (os:=os) (X:=fun w _=>laidMetH Tryz.prog Rows.topSizesRow.laid w) false (World.laidAll Tryz.prog os Rows.topSizesRow.laid) #[.agg #[.int .i64 0,.int .i64 0,.int .i64 0,.int .i64 0,.int .i64 0,.int .i64 0,.int .i64 0,.slice none 0 0,.slice none 0 0,.slice none 0 0,.slice none 0 0],.agg #[.int .i64 0,.int .i64 0,.int .i64 0,.int .i64 0,.int .i64 0],.slice none 0 0] 8 (World.laidAll_os _ _ _)
   (World.shaped_of_ZipB FU FU) FU FU FU
   (by rw[MakeChecks.laidMetH_plain _ _ _ FU];exact laidMet_laidAll _ FU FU)) ?_
 intro W o f p N hA e D
 rw[show(Tryz.f3.params.toList)=[27,28,29] from by rw[Tryz.params3]] at hA
 rw[Tryz.params3] at e
 obtain⟨v0,R,s,v,p0,q0,rfl,rfl,rfl,z,O⟩:=CR hA
 obtain⟨v1,S,t,x,p1,q1,rfl,rfl,rfl,A,P⟩:=CR O
 obtain⟨v2,T,u,y,p2,q2,rfl,rfl,rfl,B,Q⟩:=CR P
 obtain⟨rfl,rfl,rfl⟩:=ChangeShapes.trodAll_nil Q
 obtain⟨C,V,lP,cP,Z,lW,cW,U,lO,cO,Y,lV,cV,rfl,K,hP,J,E,F⟩:=aDv (e 0 _ v0 rfl rfl) z
 obtain⟨s0,s1,s2,s3,s4,rfl⟩:=aCt (e 1 _ v1 rfl rfl) A
 obtain⟨q,M,r,rfl,i⟩:=aDh Tryz.underlying29 aVf aN4 FV (e 2 _ v2 rfl rfl) B
 have g:Gl W:=aX3 FU D GW GW GW GW GW
 exact sf g K hP J E F i (fun c d=>[c,.agg ⟨[I s0,I s1,I s2,I s3,I s4]⟩,d]) (fun ρ c c' d d' a b=>bP.cons a<|bP.cons (gY _ rfl)<|bP.cons b bP.nil) fun G h pv wv ov vv lv N ws os vs l L m hG g k j n=>pz L m hG g k j n fun n=>aK6 hG g n fun _=>rfl
def ir:(Rows.topSizesRow.inPlace==Tryz.prog.inPlace 3)=true:=FU
def iv:(Rows.topSizesRow.unfollowed==Tryz.prog.unfollowed 3)=true:=FU
def qq:(Rows.topSizesRow.recurses==Tryz.prog.recurses 3)=true:=FU
def pq:(Rows.topSizesRow.named==Tryz.prog.varsNamed 3)=true:=FU
def V8:false=Rows.topSizesRow.goesBy Tryz.prog:=FU
def G3:Tryz.prog.funcNamed "donjon/donjontop.TopSizes"=some 3:=FU
def Qp:joinedFacts Tryz.prog 3 Tryz.f3 Rows.topSizesSpec Rows.topSizesRow=true:=
 (tC (tC (tC (tC (tC (tC (tC (tC (tC (tC (tC (tC (tC (tC (tC (tC (tC (tC (tC (tC (tC (tC (tC (tC (tC (tC (tC (tC (tC (tC (tC FU aBr) aUt) FU) FU) FU) aQx) FU) aPk) ir) iv) qq) pq) FU) FU) FU) FU) FU) FU) FU) FU) FU) aO1) FU) aPa) aOd) aQl) aVm) FU) FU) FU) FU)
def V4:Rows.topSizesRow.holds Tryz.pinned (OpenSpec.ofChange Rows.topSizesSpec):=
 OpenClaim.holds_of_wide 3 Tryz.f3 rfl rfl rfl rfl rfl rfl rfl ⟨rfl,rfl,rfl,rfl,rfl⟩ rfl rfl rfl rfl rfl G3 Tryz.func3 Qp
  (c8 FU) (by unfold Func.isWrapper;first|(rw[bD2<|by decide+kernel];kernel_rfl)|(rw[bD1<|by decide+kernel];exact⟨rfl,rfl⟩))
  (fun a started H enc _=>Qr a started H enc)
theorem topSizes_proved:Rows.TopSizesCardSaid:=
 Claim7.holds_tied_plain_at .later [] Rows.topSizesCard.laidKinds true Rows.topSizesCard.stood.harness true
  V4 (fun _ h=>FZ) FU (fun _ h=>FZ) topSizes_row_tie rfl ⟨rfl,rfl⟩ aVh rfl
  (fun f d e b=>by
   obtain rfl:f=3:=Option.some.inj (G3.symm.trans e)|>.symm;obtain rfl:d=Tryz.f3:=(Option.some.inj<|Tryz.func3.symm.trans b).symm;exact⟨aQf,fun j t c=>by
    rw[Tryz.params3] at c;have g:t∈[27,28,29]:=by simpa using Array.mem_of_getElem? c
    have a:([27,28,29].all fun u=> !Tryz.prog.wantsStandIn u)=true:=FU
    exact(show Tryz.prog.wantsStandIn t=false by simpa using ux.1 a t g)⟩)
  V8
end Go.Proofs.YtbcndiahccicpaaGreatDoor
