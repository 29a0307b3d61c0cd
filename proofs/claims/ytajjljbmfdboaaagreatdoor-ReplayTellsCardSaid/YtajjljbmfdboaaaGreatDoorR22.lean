/- A part of the proof. -/
import Derived.Test.YtajjljbmfdboaaaGreatDoorR21
import Derived.Test.YtajjljbmfdboaaaGreatDoorR18
namespace Go.Proofs.YtajjljbmfdboaaaGreatDoor
open Go Go.Ab Go.Hm Go.Is Go.At Go.Mc Go.RowKit
section
theorem xc:pL Tryz.prog 8 105=some [some .i64,some .i64]:=by kernel_rfl
theorem yo {l:List Value} (h:Flat [some .i64,some .i64] l):∃a b:Int,l=[I a,I b]/\ -9223372036854775808<=b/\b<=9223372036854775807:=by
 obtain⟨a,j,e,c⟩:=gS h;cases j with
 |nil=>exact c.elim
 |cons v k=>
  obtain⟨⟨b,f,d⟩,i⟩:=c;have g:=zO i;subst g f e;refine⟨a,b,rfl,?_⟩;simp only[Lit.wf,Bool.and_eq_true,decide_eq_true_eq] at d;exact d
theorem pn {ρ:iH} {a b:Int}:aF ρ (.agg ⟨[I a,I b]⟩) (.agg ⟨[I a,I b]⟩):=by simp[aF,lJ,aZ]
theorem G6 (os:Os) (args:Array Value):laidMetH Tryz.prog Rows.replayTellsRow.laid ((World.doorLaid Tryz.prog 4000 os).forCall (fun _ _=>0) ⟨#[],args,[]⟩).memory:=
 laidMetH_of_parts3 (fuel:=8) (laidMet_of_run' 8 (by kernel_rfl) (by kernel_rfl)) (by kernel_rfl) (by kernel_rfl)
set_option maxRecDepth 100000 in
theorem Dv (os:Os) (started:os.Started) (H:Type) (enc:TypeId×Value->H):
  ReturnsInHanded {} Tryz.checked os 13 .any (fun w g=>(Rows.replayTellsSpec.pre enc Tryz.prog Tryz.f13 [] false w g/\laidMetH Tryz.prog Rows.replayTellsRow.laid w)/\sizedMet enc Tryz.prog Tryz.f13 (OpenSpec.ofChange Rows.replayTellsSpec) false w g)
   (Rows.replayTellsSpec.post enc Tryz.prog Tryz.f13 false true false false):=by
 refine I7 (C:=Tryz.checked) started own (by kernel_rfl) Tryz.func13 laidOut (by kernel_rfl) rfl Tryz.underlying4 rfl (fun q j=>by
   match q,j with
   |[d1,d2,d3],_=>rfl)
  (ChangeSpec.witness_shaped (enc:=enc) (C:=Tryz.checked) (os:=os) (X:=fun w _=>laidMetH Tryz.prog Rows.replayTellsRow.laid w) false (World.doorLaid Tryz.prog 4000 os) #[.agg #[.int .i64 0,.int .i64 0,.int .i64 0,.int .i64 0,.int .i64 0,.int .i64 0,.int .i64 0,.slice none 0 0,.slice none 0 0,.slice none 0 0,.slice none 0 0],.slice none 0 0,.agg #[.int .i64 0,.int .i64 0]] 8 rfl (World.shaped_of_RefB (by kernel_rfl) (by kernel_rfl)) (by kernel_rfl) (by kernel_rfl) (by kernel_rfl) (G6 os _)) ?_
 intro W p g q R hA f J
 rw[show(Tryz.f13.params.toList)=[62,35,105] from by rw[Tryz.params13]] at hA
 rw[Tryz.params13] at f
 obtain⟨v0,V,v,z,p0,q0,rfl,rfl,rfl,D,S⟩:=ChangeShapes.trodAll_cons hA
 obtain⟨v1,Y,x,A,p1,q1,rfl,rfl,rfl,E,T⟩:=ChangeShapes.trodAll_cons S
 obtain⟨v2,Z,y,B,p2,q2,rfl,rfl,rfl,F,U⟩:=ChangeShapes.trodAll_cons T
 obtain⟨rfl,rfl,rfl⟩:=ChangeShapes.trodAll_nil U
 obtain⟨C,aP,lP,cP,aW,lW,cW,aO,lO,cO,aV,lV,cV,rfl,N,hP,M,K,L⟩:=N8 (f 0 _ v0 rfl rfl) D
 obtain⟨s,Q,u,rfl,i⟩:=Pj Tryz.underlying35 nj bf (by decide) (f 1 _ v1 rfl rfl) E
 obtain⟨l2,rfl,m⟩:=Vz Tryz.underlying105 xc (f 2 _ v2 rfl rfl) F
 obtain⟨r,t,rfl,w2⟩:=yo m
 have k:Gl W:=aBe (by kernel_rfl) J (by simp[Rows.replayTellsRow]) (by simp[Rows.replayTellsRow]) (by simp[Rows.replayTellsRow]) (by simp[Rows.replayTellsRow])
 exact Jc k N hP M K L i S1 (fun c d _=>[c,d,.agg ⟨[I r,I t]⟩]) (fun ρ c c' d d' e e' a b _=>aZ.cons a (aZ.cons b (aZ.cons pn aZ.nil))) fun G h pv wv ov vv lv nv R ws os vs l n O hG k o j _ P=>J8 O w2 hG k o j P fun _=>rfl
set_option maxRecDepth 100000
theorem Kl:(Rows.replayTellsRow.inPlace==Tryz.prog.inPlace 13)=true:=by kernel_rfl
theorem J9:(Rows.replayTellsRow.unfollowed==Tryz.prog.unfollowed 13)=true:=by kernel_rfl
theorem Lu:(Rows.replayTellsRow.recurses==Tryz.prog.recurses 13)=true:=by kernel_rfl
theorem Lo:(Rows.replayTellsRow.named==Tryz.prog.varsNamed 13)=true:=by kernel_rfl
theorem He:false=Rows.replayTellsRow.goesBy Tryz.prog:=by kernel_rfl
theorem uK:Tryz.prog.funcNamed "donjon/donjonlaw18.ReplayTells"=some 13:=by kernel_rfl
theorem Cu:joinedFacts Tryz.prog 13 Tryz.f13 Rows.replayTellsSpec Rows.replayTellsRow=true:=
 (fP (fP (fP (fP (fP (fP (fP (fP (fP (fP (fP (fP (fP (fP (fP (fP (fP (fP (fP (fP (fP (fP (fP (fP (fP (fP (fP (fP (fP (fP (fP (by kernel_rfl) laidOut) xv) (by kernel_rfl)) (by kernel_rfl)) (by kernel_rfl)) Zf) (by kernel_rfl)) Zx) Kl) J9) Lu) Lo) (by kernel_rfl)) (by kernel_rfl)) (by kernel_rfl)) (by kernel_rfl)) (by kernel_rfl)) (by kernel_rfl)) (by kernel_rfl)) (by kernel_rfl)) (by kernel_rfl)) Y9) (by kernel_rfl)) Zy) bt) Zj) xh) (by kernel_rfl)) (by kernel_rfl)) (by kernel_rfl)) (by kernel_rfl))
theorem Gm:Rows.replayTellsRow.holds Tryz.pinned (OpenSpec.ofChange Rows.replayTellsSpec):=
 OpenClaim.holds_of_wide 13 Tryz.f13 rfl rfl rfl rfl rfl rfl rfl ⟨rfl,rfl,rfl,rfl,rfl⟩ rfl rfl rfl rfl rfl uK Tryz.func13 Cu
  (of_decide_eq_true (by kernel_rfl)) (by unfold Func.isWrapper;first|(rw[aJ7 (by decide+kernel)];kernel_rfl)|(rw[aJ6 (by decide+kernel)];exact⟨rfl,rfl⟩))
  (fun a started H enc _=>Dv a started H enc)
theorem replayTells_proved:Rows.ReplayTellsCardSaid:=
 Claim7.holds_tied_plain_at .later [] Rows.replayTellsCard.laidKinds true Rows.replayTellsCard.stood.harness false
  Gm (fun _ h=>by cases h) (by kernel_rfl) (fun _ h=>by cases h) replayTells_row_tie rfl ⟨rfl,rfl⟩ w8 rfl
  (fun f d e b=>by
   obtain rfl:f=13:=Option.some.inj (uK.symm.trans e)|>.symm;obtain rfl:d=Tryz.f13:=(Option.some.inj (Tryz.func13.symm.trans b)).symm;exact⟨Y5,fun j t c=>by
    rw[Tryz.params13] at c;have g:t∈[62,35,105]:=by simpa using Array.mem_of_getElem? c
    have a:([62,35,105].all fun u=> !Tryz.prog.wantsStandIn u)=true:=by kernel_rfl
    exact(show Tryz.prog.wantsStandIn t=false by simpa using List.all_eq_true.1 a t g)⟩)
  He
end
end Go.Proofs.YtajjljbmfdboaaaGreatDoor
