/- CacheSafe: for every input the law answers true, and each argument reads afterwards as it read before. No condition but the listed variables' text. -/
import Derived.Test.YthgemaaghgpncaaDoorB17
import Derived.Test.YthgemaaghgpncaaDoorB14
section
namespace Go.Proofs.YthgemaaghgpncaaDoor
open Go Go.Ab Go.Hm Go.RowKit
theorem Bp (os:Os) (args:Array Value):laidMetH Tryd.prog Rows.cacheSafeRow.laid ((World.doorLaid Tryd.prog 4000 os).forCall (fun _ _=>0) ⟨#[],args,[]⟩).memory:=
 laidMetH_of_parts3 (fuel:=8) (laidMet_of_run' 8 (by kernel_rfl) (by kernel_rfl)) (by kernel_rfl) (by kernel_rfl)
set_option maxRecDepth 100000 in
theorem xA (os:Os) (started:os.Started) (H:Type) (enc:TypeId×Value→H):
  ReturnsInHanded {} Tryd.checked os 3 .any (fun w args=>(Rows.cacheSafeSpec.pre enc Tryd.prog Tryd.f3 [] false w args∧laidMetH Tryd.prog Rows.cacheSafeRow.laid w)∧sizedMet enc Tryd.prog Tryd.f3 (OpenSpec.ofChange Rows.cacheSafeSpec) false w args)
   (Rows.cacheSafeSpec.post enc Tryd.prog Tryd.f3 false true false false):=by
 refine Ac (C:=Tryd.checked) started own (by kernel_rfl) Tryd.func3 laidOut (by kernel_rfl) rfl Tryd.underlying4 rfl (fun ds hd=>by
   match ds,hd with
   |[d1,d2,d3],_=>rfl)
  (ChangeSpec.witness_shaped (enc:=enc) (C:=Tryd.checked) (os:=os) (X:=fun w _=>laidMetH Tryd.prog Rows.cacheSafeRow.laid w) false (World.doorLaid Tryd.prog 4000 os) #[.agg #[.int .i64 0,.int .i64 0],.slice none 0 0,.agg #[.int .i64 0]] 8 rfl (World.shaped_of_RefB (by kernel_rfl) (by kernel_rfl)) (by kernel_rfl) (by kernel_rfl) (by kernel_rfl) (Bp os _)) ?_
 intro W base args ds ps hA hval hL
 rw[show(Tryd.f3.params.toList)=[22,23,25] from by rw[Tryd.params3]] at hA
 rw[Tryd.params3] at hval
 obtain⟨v0,vs0,d0,ds0,p0,q0,rfl,rfl,rfl,h0,r0⟩:=ChangeShapes.trodAll_cons hA
 obtain⟨v1,vs1,d1,ds1,p1,q1,rfl,rfl,rfl,h1,r1⟩:=ChangeShapes.trodAll_cons r0
 obtain⟨v2,vs2,d2,ds2,p2,q2,rfl,rfl,rfl,h2,r2⟩:=ChangeShapes.trodAll_cons r1
 obtain⟨rfl,rfl,rfl⟩:=ChangeShapes.trodAll_nil r2
 obtain⟨l0,rfl,hl0⟩:=xV Tryd.underlying22 Hp (hval 0 _ v0 rfl rfl) h0
 obtain⟨x0,y0,rfl⟩:=Mx hl0
 obtain⟨a1,len1,cap1,rfl,hrow⟩:=C7 Tryd.underlying23 Iu Dq (by decide) (hval 1 _ v1 rfl rfl) h1
 have hlen:=Mf Tryd.underlying23 h1
 obtain⟨l2,rfl,hl2⟩:=E9 Tryd.underlying25 Pv (hval 2 _ v2 rfl rfl) h2
 obtain⟨x2,rfl⟩:=Tc hl2
 exact B3 (Wc (by kernel_rfl) hL (by simp[Rows.cacheSafeRow]) (by simp[Rows.cacheSafeRow])) hrow (pre:=[.agg ⟨[I x0,I y0]⟩]) (post:=[.agg ⟨[I x2]⟩]) rfl rfl fun G h t l hl hlim hrows hold hs=>Fj (a:=x0) (b:=y0) (bits:=x2) (by unfold maxLen at hlen;omega) hlim hrows hold hs (fun h=>rfl)
theorem zX:Rows.cacheSafeRow.holds Tryd.pinned (OpenSpec.ofChange Rows.cacheSafeSpec):=
 OpenClaim.holds_of_wide 3 Tryd.f3 rfl rfl rfl rfl rfl rfl rfl ⟨rfl,rfl,rfl,rfl,rfl⟩ rfl rfl rfl rfl rfl (by kernel_rfl) Tryd.func3 (by kernel_rfl)
  (of_decide_eq_true (by kernel_rfl)) (by unfold Func.isWrapper;first|(rw[if_pos (by decide+kernel)];kernel_rfl)|(rw[if_neg (by decide+kernel)];exact⟨rfl,rfl⟩))
  (fun os started H enc _=>xA os started H enc)
theorem cacheSafe_proved:Rows.CacheSafeCardSaid:=
 Claim7.holds_tied_plain_at .later [] Rows.cacheSafeCard.laidKinds true Rows.cacheSafeCard.stood.harness false
  zX (fun _ h=>by cases h) (by kernel_rfl) (fun _ h=>by cases h) cacheSafe_row_tie rfl ⟨rfl,rfl⟩ (by kernel_rfl) rfl
  (fun f fn hf hfn=>by
   obtain rfl:f=3:=Option.some.inj ((show Tryd.prog.funcNamed "donjon/donjonlaw13.CacheSafe"=some 3 by kernel_rfl).symm.trans hf)|>.symm
   obtain rfl:fn=Tryd.f3:=(Option.some.inj (Tryd.func3.symm.trans hfn)).symm
   exact⟨by kernel_rfl,fun j t ht=>by
    rw[Tryd.params3] at ht
    have hm:t∈[22,23,25]:=by simpa using Array.mem_of_getElem? ht
    have hall:([22,23,25].all fun u=> !Tryd.prog.wantsStandIn u)=true:=by kernel_rfl
    exact(show Tryd.prog.wantsStandIn t=false by simpa using List.all_eq_true.1 hall t hm)⟩)
  (by kernel_rfl)
end Go.Proofs.YthgemaaghgpncaaDoor
end
