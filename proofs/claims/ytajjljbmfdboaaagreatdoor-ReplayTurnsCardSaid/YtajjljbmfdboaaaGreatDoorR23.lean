/- ReplayTurns: for every input the law answers true, and each argument reads afterwards as it read before. No condition but the listed variables' text. -/
import Derived.Test.YtajjljbmfdboaaaGreatDoorR21
import Derived.Test.YtajjljbmfdboaaaGreatDoorR18
namespace Go.Proofs.YtajjljbmfdboaaaGreatDoor
open Go Go.Ab Go.Hm Go.Is Go.At Go.Mc Go.RowKit
section
theorem aAl {ρ:iH} {a:Int}:aF ρ (I a) (I a):=by simp[aF]
theorem Gh (os:Os) (args:Array Value):laidMetH Tryz.prog Rows.replayTurnsRow.laid ((World.doorLaid Tryz.prog 4000 os).forCall (fun _ _=>0) ⟨#[],args,[]⟩).memory:=
 laidMetH_of_parts3 (fuel:=8) (laidMet_of_run' 8 (by kernel_rfl) (by kernel_rfl)) (by kernel_rfl) (by kernel_rfl)
set_option maxRecDepth 100000 in
theorem Dc (os:Os) (started:os.Started) (H:Type) (enc:TypeId×Value->H):
  ReturnsInHanded {} Tryz.checked os 14 .any (fun w g=>(Rows.replayTurnsSpec.pre enc Tryz.prog Tryz.f14 [] false w g/\laidMetH Tryz.prog Rows.replayTurnsRow.laid w)/\sizedMet enc Tryz.prog Tryz.f14 (OpenSpec.ofChange Rows.replayTurnsSpec) false w g)
   (Rows.replayTurnsSpec.post enc Tryz.prog Tryz.f14 false true false false):=by
 refine I7 (C:=Tryz.checked) started own (by kernel_rfl) Tryz.func14 laidOut (by kernel_rfl) rfl Tryz.underlying4 rfl (fun p j=>by
   match p,j with
   |[d1,d2,d3],_=>rfl)
  (ChangeSpec.witness_shaped (enc:=enc) (C:=Tryz.checked) (os:=os) (X:=fun w _=>laidMetH Tryz.prog Rows.replayTurnsRow.laid w) false (World.doorLaid Tryz.prog 4000 os) #[.agg #[.int .i64 0,.int .i64 0,.int .i64 0,.int .i64 0,.int .i64 0,.int .i64 0,.int .i64 0,.slice none 0 0,.slice none 0 0,.slice none 0 0,.slice none 0 0],.slice none 0 0,.int .i64 0] 8 rfl (World.shaped_of_RefB (by kernel_rfl) (by kernel_rfl)) (by kernel_rfl) (by kernel_rfl) (by kernel_rfl) (Gh os _)) ?_
 intro W o g p O hA f D
 rw[show(Tryz.f14.params.toList)=[62,35,3] from by rw[Tryz.params14]] at hA
 rw[Tryz.params14] at f
 obtain⟨v0,S,s,v,p0,q0,rfl,rfl,rfl,z,P⟩:=ChangeShapes.trodAll_cons hA
 obtain⟨v1,T,t,x,p1,q1,rfl,rfl,rfl,A,Q⟩:=ChangeShapes.trodAll_cons P
 obtain⟨v2,U,u,y,p2,q2,rfl,rfl,rfl,B,R⟩:=ChangeShapes.trodAll_cons Q
 obtain⟨rfl,rfl,rfl⟩:=ChangeShapes.trodAll_nil R
 obtain⟨C,Z,lP,cP,aW,lW,cW,Y,lO,cO,aV,lV,cV,rfl,K,hP,J,E,F⟩:=N8 (f 0 _ v0 rfl rfl) z
 obtain⟨q,N,r,rfl,i⟩:=Pj Tryz.underlying35 nj bf (by decide) (f 1 _ v1 rfl rfl) A
 obtain⟨V,rfl,rfl,rfl,w2⟩:=ChangeShapes.open_int Tryz.underlying3 (f 2 _ v2 rfl rfl) B
 have k:Gl W:=aBe (by kernel_rfl) D (by simp[Rows.replayTurnsRow]) (by simp[Rows.replayTurnsRow]) (by simp[Rows.replayTurnsRow]) (by simp[Rows.replayTurnsRow])
 exact Jc k K hP J E F i S1 (fun c d _=>[c,d,I V]) (fun ρ c c' d d' e e' a b _=>aZ.cons a (aZ.cons b (aZ.cons aAl aZ.nil))) fun G h pv wv ov vv lv nv O ws os vs l n L hG k m j _ M=>Ls L hG k m j M fun _=>rfl
set_option maxRecDepth 100000
theorem Ld:(Rows.replayTurnsRow.inPlace==Tryz.prog.inPlace 14)=true:=by kernel_rfl
theorem Mh:(Rows.replayTurnsRow.unfollowed==Tryz.prog.unfollowed 14)=true:=by kernel_rfl
theorem Lx:(Rows.replayTurnsRow.recurses==Tryz.prog.recurses 14)=true:=by kernel_rfl
theorem Ma:(Rows.replayTurnsRow.named==Tryz.prog.varsNamed 14)=true:=by kernel_rfl
theorem Gy:false=Rows.replayTurnsRow.goesBy Tryz.prog:=by kernel_rfl
theorem uQ:Tryz.prog.funcNamed "donjon/donjonlaw18.ReplayTurns"=some 14:=by kernel_rfl
theorem Dl:joinedFacts Tryz.prog 14 Tryz.f14 Rows.replayTurnsSpec Rows.replayTurnsRow=true:=
 (fP (fP (fP (fP (fP (fP (fP (fP (fP (fP (fP (fP (fP (fP (fP (fP (fP (fP (fP (fP (fP (fP (fP (fP (fP (fP (fP (fP (fP (fP (fP (by kernel_rfl) laidOut) xv) (by kernel_rfl)) (by kernel_rfl)) (by kernel_rfl)) Zf) (by kernel_rfl)) Zx) Ld) Mh) Lx) Ma) (by kernel_rfl)) (by kernel_rfl)) (by kernel_rfl)) (by kernel_rfl)) (by kernel_rfl)) (by kernel_rfl)) (by kernel_rfl)) (by kernel_rfl)) (by kernel_rfl)) Y9) (by kernel_rfl)) Zy) bt) Zj) xh) (by kernel_rfl)) (by kernel_rfl)) (by kernel_rfl)) (by kernel_rfl))
theorem F3:Rows.replayTurnsRow.holds Tryz.pinned (OpenSpec.ofChange Rows.replayTurnsSpec):=
 OpenClaim.holds_of_wide 14 Tryz.f14 rfl rfl rfl rfl rfl rfl rfl ⟨rfl,rfl,rfl,rfl,rfl⟩ rfl rfl rfl rfl rfl uQ Tryz.func14 Dl
  (of_decide_eq_true (by kernel_rfl)) (by unfold Func.isWrapper;first|(rw[aJ7 (by decide+kernel)];kernel_rfl)|(rw[aJ6 (by decide+kernel)];exact⟨rfl,rfl⟩))
  (fun a started H enc _=>Dc a started H enc)
theorem replayTurns_proved:Rows.ReplayTurnsCardSaid:=
 Claim7.holds_tied_plain_at .later [] Rows.replayTurnsCard.laidKinds true Rows.replayTurnsCard.stood.harness false
  F3 (fun _ h=>by cases h) (by kernel_rfl) (fun _ h=>by cases h) replayTurns_row_tie rfl ⟨rfl,rfl⟩ w8 rfl
  (fun f d e b=>by
   obtain rfl:f=14:=Option.some.inj (uQ.symm.trans e)|>.symm;obtain rfl:d=Tryz.f14:=(Option.some.inj (Tryz.func14.symm.trans b)).symm;exact⟨Y5,fun j t c=>by
    rw[Tryz.params14] at c;have g:t∈[62,35,3]:=by simpa using Array.mem_of_getElem? c
    have a:([62,35,3].all fun u=> !Tryz.prog.wantsStandIn u)=true:=by kernel_rfl
    exact(show Tryz.prog.wantsStandIn t=false by simpa using List.all_eq_true.1 a t g)⟩)
  Gy
end
end Go.Proofs.YtajjljbmfdboaaaGreatDoor
