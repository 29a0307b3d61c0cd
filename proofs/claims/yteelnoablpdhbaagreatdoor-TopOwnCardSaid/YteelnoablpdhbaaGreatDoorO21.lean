/- TopOwn: for every input the law answers true, and each argument reads afterwards as it read before. No condition but the listed variables' text. -/
import Derived.Test.YteelnoablpdhbaaGreatDoorO19
import Derived.Test.YteelnoablpdhbaaGreatDoorO20
import Derived.Lay
import Derived.LaidOnce
import Derived.ChangeMaps5
set_option linter.all false
set_option maxRecDepth 100000
open Go Go.Ab
namespace Go.Proofs.YteelnoablpdhbaaGreatDoor
open Go.Proofs.Z
open Go.Hm Go.Is Go.At Go.Mc Go.RowKit
set_option maxRecDepth 100000 in
def Sk (os:Os) (started:os.Started) (H:Type) (enc:TypeId×Value->H):
  ReturnsInHanded {} Tryz.checked os 3 .any (fun w e=>(Rows.topOwnSpec.pre enc Tryz.prog Tryz.f3 [] false w e/\laidMetH Tryz.prog Rows.topOwnRow.laid w)/\sizedMet enc Tryz.prog Tryz.f3 (OpenSpec.ofChange Rows.topOwnSpec) false w e)
   (Rows.topOwnSpec.post enc Tryz.prog Tryz.f3 false true false false):=by
 refine mz (C:=Tryz.checked) started oA EU Tryz.func3 wb EU rfl Tryz.underlying4 rfl (fun p j=>by
   match p,j with
   |[d1,d2],_=>rfl)
  (ChangeSpec.witness_shaped (enc:=enc) (C:=Tryz.checked) (os:=os) (X:=fun w _=>laidMetH Tryz.prog Rows.topOwnRow.laid w) false (World.laidAll Tryz.prog os Rows.topOwnRow.laid) #[.agg #[.int .i64 0,.int .i64 0,.int .i64 0,.int .i64 0,.int .i64 0,.int .i64 0,.int .i64 0,.slice none 0 0,.slice none 0 0,.slice none 0 0,.slice none 0 0],.slice none 0 0] 8 (World.laidAll_os _ _ _)
   (World.shaped_of_ZipB EU EU) EU EU EU
   (by rw[MakeChecks.laidMetH_plain _ _ _ EU];exact laidMet_laidAll _ EU EU)) ?_
 intro W o e p I hA f z
 rw[show(Tryz.f3.params.toList)=[27,28] from by rw[Tryz.params3]] at hA
 rw[Tryz.params3] at f
 obtain⟨v0,L,s,u,p0,q0,rfl,rfl,rfl,x,J⟩:=ChangeShapes.trodAll_cons hA
 obtain⟨v2,M,t,v,p2,q2,rfl,rfl,rfl,y,K⟩:=ChangeShapes.trodAll_cons J
 obtain⟨rfl,rfl,rfl⟩:=ChangeShapes.trodAll_nil K
 obtain⟨C,O,Z,T,Q,lW,cW,N,Y,S,P,lV,U,rfl,D,hP,B,hO,A⟩:=zd (f 0 _ v0 rfl rfl) x
 obtain⟨q,F,r,rfl,i⟩:=yy Tryz.underlying28 aQ2 aIg ET (f 1 _ v2 rfl rfl) y
 have g:Gl W:=aRn EU z FX FX FX FX FX
 exact ib g D hP B hO A i (fun c d=>[c,d]) (fun ρ c R d V a b=>bH.cons a<|bH.cons b bH.nil) fun G h pv wv ov vv lv I ws os vs l E m hG g k j n=>aAh E m hG g k j n fun n=>aFu hG g n fun _=>rfl
def zc:(Rows.topOwnRow.inPlace==Tryz.prog.inPlace 3)=true:=EU
def yo:(Rows.topOwnRow.unfollowed==Tryz.prog.unfollowed 3)=true:=EU
def yr:(Rows.topOwnRow.recurses==Tryz.prog.recurses 3)=true:=EU
def xj:(Rows.topOwnRow.named==Tryz.prog.varsNamed 3)=true:=EU
def cj:false=Rows.topOwnRow.goesBy Tryz.prog:=EU
def Ir:Tryz.prog.funcNamed "donjon/donjontop.TopOwn"=some 3:=EU
def R5:joinedFacts Tryz.prog 3 Tryz.f3 Rows.topOwnSpec Rows.topOwnRow=true:=
 (qX (qX (qX (qX (qX (qX (qX (qX (qX (qX (qX (qX (qX (qX (qX (qX (qX (qX (qX (qX (qX (qX (qX (qX (qX (qX (qX (qX (qX (qX (qX EU wb) aPh) EU) EU) EU) aM2) EU) aKs) zc) yo) yr) xj) EU) EU) EU) EU) EU) EU) EU) EU) EU) aJe) EU) aKk) aJp) aLs) aQ9) EU) EU) EU) EU)
def Yk:Rows.topOwnRow.holds Tryz.pinned (OpenSpec.ofChange Rows.topOwnSpec):=
 OpenClaim.holds_of_wide 3 Tryz.f3 rfl rfl rfl rfl rfl rfl rfl ⟨rfl,rfl,rfl,rfl,rfl⟩ rfl rfl rfl rfl rfl Ir Tryz.func3 R5
  (eo EU) (by unfold Func.isWrapper;first|(rw[aXg<|by decide+kernel];kernel_rfl)|(rw[aXf<|by decide+kernel];exact⟨rfl,rfl⟩))
  (fun a started H enc _=>Sk a started H enc)
theorem topOwn_proved:Rows.TopOwnCardSaid:=
 Claim7.holds_tied_plain_at .later [] Rows.topOwnCard.laidKinds true Rows.topOwnCard.stood.harness true
  Yk (fun _ h=>EY) EU (fun _ h=>EY) topOwn_row_tie rfl ⟨rfl,rfl⟩ aQ4 rfl
  (fun f d e b=>by
   obtain rfl:f=3:=Option.some.inj (Ir.symm.trans e)|>.symm;obtain rfl:d=Tryz.f3:=(Option.some.inj<|Tryz.func3.symm.trans b).symm;exact⟨aLl,fun j t c=>by
    rw[Tryz.params3] at c;have g:t∈[27,28]:=by simpa using Array.mem_of_getElem? c
    have a:([27,28].all fun u=> !Tryz.prog.wantsStandIn u)=true:=EU
    exact(show Tryz.prog.wantsStandIn t=false by simpa using lP.1 a t g)⟩)
  cj
end Go.Proofs.YteelnoablpdhbaaGreatDoor
