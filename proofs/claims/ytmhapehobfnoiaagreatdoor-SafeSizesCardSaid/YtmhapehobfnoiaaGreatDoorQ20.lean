/- A part of the proof. -/
import Derived.Test.YtmhapehobfnoiaaGreatDoorQ18
import Derived.Test.YtmhapehobfnoiaaGreatDoorQ15
namespace Go.Proofs.YtmhapehobfnoiaaGreatDoor
open Go Go.Ab Go.Hm Go.Is Go.At Go.Mc Go.RowKit
section
theorem M3 (os:Os) (args:Array Value):laidMetH Tryz.prog Rows.safeSizesRow.laid ((World.doorLaid Tryz.prog 4000 os).forCall (fun _ _=>0) ⟨#[],args,[]⟩).memory:=
 laidMetH_of_parts3 (fuel:=8) (laidMet_of_run' 8 (by kernel_rfl) (by kernel_rfl)) (by kernel_rfl) (by kernel_rfl)
set_option maxRecDepth 100000 in
theorem Gn (os:Os) (started:os.Started) (H:Type) (enc:TypeId×Value->H):
  ReturnsInHanded {} Tryz.checked os 6 .any (fun w f=>(Rows.safeSizesSpec.pre enc Tryz.prog Tryz.f6 [] false w f/\laidMetH Tryz.prog Rows.safeSizesRow.laid w)/\sizedMet enc Tryz.prog Tryz.f6 (OpenSpec.ofChange Rows.safeSizesSpec) false w f)
   (Rows.safeSizesSpec.post enc Tryz.prog Tryz.f6 false true false false):=by
 refine Cc (C:=Tryz.checked) started own (by kernel_rfl) Tryz.func6 laidOut (by kernel_rfl) rfl Tryz.underlying4 rfl (fun p j=>by
   match p,j with
   |[d1,d2],_=>rfl)
  (ChangeSpec.witness_shaped (enc:=enc) (C:=Tryz.checked) (os:=os) (X:=fun w _=>laidMetH Tryz.prog Rows.safeSizesRow.laid w) false (World.doorLaid Tryz.prog 4000 os) #[.agg #[.int .i64 0,.int .i64 0,.int .i64 0,.int .i64 0,.int .i64 0,.int .i64 0,.int .i64 0,.slice none 0 0,.slice none 0 0,.slice none 0 0,.slice none 0 0],.slice none 0 0] 8 rfl (World.shaped_of_RefB (by kernel_rfl) (by kernel_rfl)) (by kernel_rfl) (by kernel_rfl) (by kernel_rfl) (M3 os _)) ?_
 intro W o f p K hA g z
 rw[show(Tryz.f6.params.toList)=[27,58] from by rw[Tryz.params6]] at hA
 rw[Tryz.params6] at g
 obtain⟨v0,N,s,u,p0,q0,rfl,rfl,rfl,x,L⟩:=ChangeShapes.trodAll_cons hA
 obtain⟨v1,O,t,v,p1,q1,rfl,rfl,rfl,y,M⟩:=ChangeShapes.trodAll_cons L
 obtain⟨rfl,rfl,rfl⟩:=ChangeShapes.trodAll_nil M
 obtain⟨C,Q,lP,V,S,lW,cW,P,lO,U,R,lV,Y,rfl,E,hP,D,A,B⟩:=Gz (g 0 _ v0 rfl rfl) x
 obtain⟨q,J,r,rfl,i⟩:=Ag Tryz.underlying58 Q6 Ii (by decide) (g 1 _ v1 rfl rfl) y
 have k:Gl W:=yz (by kernel_rfl) z (by simp[Rows.safeSizesRow]) (by simp[Rows.safeSizesRow]) (by simp[Rows.safeSizesRow]) (by simp[Rows.safeSizesRow])
 exact Bq k E hP D A B i Vo (fun c d _=>[c,d]) (fun ρ c T d Z e e' a b _=>aU.cons a (aU.cons b aU.nil)) fun G h pv wv ov vv lv nv K ws os vs l n F hG k m j _ I=>Sl F hG k m j I fun _=>rfl
set_option maxRecDepth 100000
theorem S3:(Rows.safeSizesRow.inPlace==Tryz.prog.inPlace 6)=true:=by kernel_rfl
theorem Qe:(Rows.safeSizesRow.unfollowed==Tryz.prog.unfollowed 6)=true:=by kernel_rfl
theorem Re:(Rows.safeSizesRow.recurses==Tryz.prog.recurses 6)=true:=by kernel_rfl
theorem Sq:(Rows.safeSizesRow.named==Tryz.prog.varsNamed 6)=true:=by kernel_rfl
theorem Lq:false=Rows.safeSizesRow.goesBy Tryz.prog:=by kernel_rfl
theorem xX:Tryz.prog.funcNamed "donjon/donjonlaw17.SafeSizes"=some 6:=by kernel_rfl
theorem Fp:joinedFacts Tryz.prog 6 Tryz.f6 Rows.safeSizesSpec Rows.safeSizesRow=true:=
 (dM (dM (dM (dM (dM (dM (dM (dM (dM (dM (dM (dM (dM (dM (dM (dM (dM (dM (dM (dM (dM (dM (dM (dM (dM (dM (dM (dM (dM (dM (dM (by kernel_rfl) laidOut) Yc) (by kernel_rfl)) (by kernel_rfl)) (by kernel_rfl)) Sw) (by kernel_rfl)) Su) S3) Qe) Re) Sq) (by kernel_rfl)) (by kernel_rfl)) (by kernel_rfl)) (by kernel_rfl)) (by kernel_rfl)) (by kernel_rfl)) (by kernel_rfl)) (by kernel_rfl)) (by kernel_rfl)) Ro) (by kernel_rfl)) Rf) Rn) Sg) Z4) (by kernel_rfl)) (by kernel_rfl)) (by kernel_rfl)) (by kernel_rfl))
theorem Ky:Rows.safeSizesRow.holds Tryz.pinned (OpenSpec.ofChange Rows.safeSizesSpec):=
 OpenClaim.holds_of_wide 6 Tryz.f6 rfl rfl rfl rfl rfl rfl rfl ⟨rfl,rfl,rfl,rfl,rfl⟩ rfl rfl rfl rfl rfl xX Tryz.func6 Fp
  (of_decide_eq_true (by kernel_rfl)) (by unfold Func.isWrapper;first|(rw[aLy (by decide+kernel)];kernel_rfl)|(rw[aLx (by decide+kernel)];exact⟨rfl,rfl⟩))
  (fun a started H enc _=>Gn a started H enc)
theorem safeSizes_proved:Rows.SafeSizesCardSaid:=
 Claim7.holds_tied_plain_at .later [] Rows.safeSizesCard.laidKinds true Rows.safeSizesCard.stood.harness false
  Ky (fun _ h=>by cases h) (by kernel_rfl) (fun _ h=>by cases h) safeSizes_row_tie rfl ⟨rfl,rfl⟩ Yw rfl
  (fun f d e b=>by
   obtain rfl:f=6:=Option.some.inj (xX.symm.trans e)|>.symm;obtain rfl:d=Tryz.f6:=(Option.some.inj (Tryz.func6.symm.trans b)).symm;exact⟨Qp,fun j t c=>by
    rw[Tryz.params6] at c;have g:t∈[27,58]:=by simpa using Array.mem_of_getElem? c
    have a:([27,58].all fun u=> !Tryz.prog.wantsStandIn u)=true:=by kernel_rfl
    exact(show Tryz.prog.wantsStandIn t=false by simpa using List.all_eq_true.1 a t g)⟩)
  Lq
end
end Go.Proofs.YtmhapehobfnoiaaGreatDoor
