/- FairNil: for every input the law answers true, and each argument reads afterwards as it read before. No condition but the listed variables' text. -/
import Derived.Test.YtajjljbmfdboaaaGreatDoorB13
import Derived.Test.YtajjljbmfdboaaaGreatDoorB9
import Derived.Test.YtajjljbmfdboaaaGreatDoorB11
section
namespace Go.Proofs.YtajjljbmfdboaaaGreatDoor
open Go Go.Ab Go.RowKit
theorem fairNil_door (os : Os) (args : Array Value) : laidMetH Tryz.prog Rows.fairNilRow.laid ((World.doorLaid Tryz.prog 4000 os).forCall (fun _ _ => 0) ⟨#[], args, []⟩).memory :=
  laidMetH_of_parts3 (fuel := 8) (laidMet_of_run' 8 (by kernel_rfl) (by kernel_rfl)) (by kernel_rfl) (by kernel_rfl)
set_option maxRecDepth 100000 in
theorem fairNil_lifted (os : Os) (started : os.Started) (H : Type) (enc : TypeId × Value → H) :
    ReturnsInHanded {} Tryz.checked os 4 .any (fun w args => (Rows.fairNilSpec.pre enc Tryz.prog Tryz.f4 [] false w args ∧ laidMetH Tryz.prog Rows.fairNilRow.laid w) ∧ sizedMet enc Tryz.prog Tryz.f4 (OpenSpec.ofChange Rows.fairNilSpec) false w args)
      (Rows.fairNilSpec.post enc Tryz.prog Tryz.f4 false true false false) := by
  refine law_lifted (C := Tryz.checked) started own (by kernel_rfl) Tryz.func4 laidOut (by kernel_rfl) rfl Tryz.underlying4 rfl (fun ds hd => by
      match ds, hd with
      | [d1], _ => rfl)
    (ChangeSpec.witness_shaped (enc := enc) (C := Tryz.checked) (os := os) (X := fun w _ => laidMetH Tryz.prog Rows.fairNilRow.laid w) false (World.doorLaid Tryz.prog 4000 os) #[.int .i64 0] 8 rfl (World.shaped_of_RefB (by kernel_rfl) (by kernel_rfl)) (by kernel_rfl) (by kernel_rfl) (by kernel_rfl) (fairNil_door os _)) ?_
  intro W base args ds ps hA hval hL
  rw [show (Tryz.f4.params.toList) = [3] from by rw [Tryz.params4]] at hA
  rw [Tryz.params4] at hval
  obtain ⟨v0, vs0, dd0, ds0, p0, q0, rfl, rfl, rfl, h0, r0⟩ := ChangeShapes.trodAll_cons hA
  obtain ⟨rfl, rfl, rfl⟩ := ChangeShapes.trodAll_nil r0
  obtain ⟨x0, rfl, rfl, rfl, w0⟩ := ChangeShapes.open_int Tryz.underlying3 (hval 0 _ v0 rfl rfl) h0
  have hg : Gl W := gl_of (by kernel_rfl) hL (by simp [Rows.fairNilRow]) (by simp [Rows.fairNilRow]) (by simp [Rows.fairNilRow]) (by simp [Rows.fairNilRow])
  exact closed_law awake19_run rfl (fun e0 z0 e1 z1 e2 z2 e3 z3 => fairNil_run e0 z0 e1 z1 e2 z2 e3 z3 x0) hg
set_option maxRecDepth 100000
theorem fairNil_k1 : (Rows.fairNilRow.inPlace == Tryz.prog.inPlace 4) = true := by kernel_rfl
theorem fairNil_k2 : (Rows.fairNilRow.unfollowed == Tryz.prog.unfollowed 4) = true := by kernel_rfl
theorem fairNil_k3 : (Rows.fairNilRow.recurses == Tryz.prog.recurses 4) = true := by kernel_rfl
theorem fairNil_k4 : (Rows.fairNilRow.named == Tryz.prog.varsNamed 4) = true := by kernel_rfl
theorem fairNil_goes : false = Rows.fairNilRow.goesBy Tryz.prog := by kernel_rfl
theorem fairNil_named : Tryz.prog.funcNamed "donjon/donjonlaw19.FairNil" = some 4 := by kernel_rfl
theorem fairNil_joined : joinedFacts Tryz.prog 4 Tryz.f4 Rows.fairNilSpec Rows.fairNilRow = true :=
  (andB (andB (andB (andB (andB (andB (andB (andB (andB (andB (andB (andB (andB (andB (andB (andB (andB (andB (andB (andB (andB (andB (andB (andB (andB (andB (andB (andB (andB (andB (andB (by kernel_rfl) laidOut) p_maps) (by kernel_rfl)) (by kernel_rfl)) (by kernel_rfl)) p_stops) (by kernel_rfl)) p_knobs) fairNil_k1) fairNil_k2) fairNil_k3) fairNil_k4) (by kernel_rfl)) (by kernel_rfl)) (by kernel_rfl)) (by kernel_rfl)) (by kernel_rfl)) (by kernel_rfl)) (by kernel_rfl)) (by kernel_rfl)) (by kernel_rfl)) p_plain) (by kernel_rfl)) p_heard) p_enter) p_lifts) p_make) (by kernel_rfl)) (by kernel_rfl)) (by kernel_rfl)) (by kernel_rfl))
theorem fairNil_over : Rows.fairNilRow.holds Tryz.pinned (OpenSpec.ofChange Rows.fairNilSpec) :=
  OpenClaim.holds_of_wide 4 Tryz.f4 rfl rfl rfl rfl rfl rfl rfl ⟨rfl, rfl, rfl, rfl, rfl⟩ rfl rfl rfl rfl rfl fairNil_named Tryz.func4 fairNil_joined
    (of_decide_eq_true (by kernel_rfl)) (by unfold Func.isWrapper; first | (rw [if_pos (by decide +kernel)]; kernel_rfl) | (rw [if_neg (by decide +kernel)]; exact ⟨rfl, rfl⟩))
    (fun os started H enc _ => fairNil_lifted os started H enc)
/-- ████ THE STATEMENT ████ -/
theorem fairNil_proved : Rows.FairNilCardSaid :=
  Claim7.holds_tied_plain_at .later [] Rows.fairNilCard.laidKinds true Rows.fairNilCard.stood.harness false
    fairNil_over (fun _ h => by cases h) (by kernel_rfl) (fun _ h => by cases h) fairNil_row_tie rfl ⟨rfl, rfl⟩ p_main rfl
    (fun f fn hf hfn => by
      obtain rfl : f = 4 := Option.some.inj (fairNil_named.symm.trans hf) |>.symm
      obtain rfl : fn = Tryz.f4 := (Option.some.inj (Tryz.func4.symm.trans hfn)).symm
      exact ⟨p_looks, fun j t ht => by
        rw [Tryz.params4] at ht
        have hm : t ∈ [3] := by simpa using Array.mem_of_getElem? ht
        have hall : ([3].all fun u => !Tryz.prog.wantsStandIn u) = true := by kernel_rfl
        exact (show Tryz.prog.wantsStandIn t = false by simpa using List.all_eq_true.1 hall t hm)⟩)
    fairNil_goes
end Go.Proofs.YtajjljbmfdboaaaGreatDoor
end
