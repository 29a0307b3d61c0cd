/- MachineNil: for every input the law answers true, and each argument reads afterwards as it read before. No condition but the listed variables' text. -/
import Derived.Test.YtajjljbmfdboaaaGreatDoorB13
import Derived.Test.YtajjljbmfdboaaaGreatDoorB9
import Derived.Test.YtajjljbmfdboaaaGreatDoorB10
section
namespace Go.Proofs.YtajjljbmfdboaaaGreatDoor
open Go Go.Ab Go.RowKit
theorem machineNil_door (os : Os) (args : Array Value) : laidMetH Tryz.prog Rows.machineNilRow.laid ((World.doorLaid Tryz.prog 4000 os).forCall (fun _ _ => 0) ⟨#[], args, []⟩).memory :=
  laidMetH_of_parts3 (fuel := 8) (laidMet_of_run' 8 (by kernel_rfl) (by kernel_rfl)) (by kernel_rfl) (by kernel_rfl)
set_option maxRecDepth 100000 in
theorem machineNil_lifted (os : Os) (started : os.Started) (H : Type) (enc : TypeId × Value → H) :
    ReturnsInHanded {} Tryz.checked os 3 .any (fun w args => (Rows.machineNilSpec.pre enc Tryz.prog Tryz.f3 [] false w args ∧ laidMetH Tryz.prog Rows.machineNilRow.laid w) ∧ sizedMet enc Tryz.prog Tryz.f3 (OpenSpec.ofChange Rows.machineNilSpec) false w args)
      (Rows.machineNilSpec.post enc Tryz.prog Tryz.f3 false true false false) := by
  refine law_lifted (C := Tryz.checked) started own (by kernel_rfl) Tryz.func3 laidOut (by kernel_rfl) rfl Tryz.underlying4 rfl (fun ds hd => by
      match ds, hd with
      | [d1], _ => rfl)
    (ChangeSpec.witness_shaped (enc := enc) (C := Tryz.checked) (os := os) (X := fun w _ => laidMetH Tryz.prog Rows.machineNilRow.laid w) false (World.doorLaid Tryz.prog 4000 os) #[.agg #[.int .i64 0, .int .i64 0, .int .i64 0, .int .i64 0]] 8 rfl (World.shaped_of_RefB (by kernel_rfl) (by kernel_rfl)) (by kernel_rfl) (by kernel_rfl) (by kernel_rfl) (machineNil_door os _)) ?_
  intro W base args ds ps hA hval hL
  rw [show (Tryz.f3.params.toList) = [23] from by rw [Tryz.params3]] at hA
  rw [Tryz.params3] at hval
  obtain ⟨v0, vs0, dd0, ds0, p0, q0, rfl, rfl, rfl, h0, r0⟩ := ChangeShapes.trodAll_cons hA
  obtain ⟨rfl, rfl, rfl⟩ := ChangeShapes.trodAll_nil r0
  obtain ⟨l0, rfl, hl0⟩ := open_structF Tryz.underlying23 doFlat (hval 0 _ v0 rfl rfl) h0
  obtain ⟨a0, b0, c0, d0, rfl⟩ := do_of hl0
  have hg : Gl W := gl_of (by kernel_rfl) hL (by simp [Rows.machineNilRow]) (by simp [Rows.machineNilRow]) (by simp [Rows.machineNilRow]) (by simp [Rows.machineNilRow])
  exact closed_law awake16_run rfl (fun e0 z0 e1 z1 e2 z2 e3 z3 => machineNil_run e0 z0 e1 z1 e2 z2 e3 z3 a0 b0 c0 d0) hg
set_option maxRecDepth 100000
theorem machineNil_k1 : (Rows.machineNilRow.inPlace == Tryz.prog.inPlace 3) = true := by kernel_rfl
theorem machineNil_k2 : (Rows.machineNilRow.unfollowed == Tryz.prog.unfollowed 3) = true := by kernel_rfl
theorem machineNil_k3 : (Rows.machineNilRow.recurses == Tryz.prog.recurses 3) = true := by kernel_rfl
theorem machineNil_k4 : (Rows.machineNilRow.named == Tryz.prog.varsNamed 3) = true := by kernel_rfl
theorem machineNil_goes : false = Rows.machineNilRow.goesBy Tryz.prog := by kernel_rfl
theorem machineNil_named : Tryz.prog.funcNamed "donjon/donjonlaw16.MachineNil" = some 3 := by kernel_rfl
theorem machineNil_joined : joinedFacts Tryz.prog 3 Tryz.f3 Rows.machineNilSpec Rows.machineNilRow = true :=
  (andB (andB (andB (andB (andB (andB (andB (andB (andB (andB (andB (andB (andB (andB (andB (andB (andB (andB (andB (andB (andB (andB (andB (andB (andB (andB (andB (andB (andB (andB (andB (by kernel_rfl) laidOut) p_maps) (by kernel_rfl)) (by kernel_rfl)) (by kernel_rfl)) p_stops) (by kernel_rfl)) p_knobs) machineNil_k1) machineNil_k2) machineNil_k3) machineNil_k4) (by kernel_rfl)) (by kernel_rfl)) (by kernel_rfl)) (by kernel_rfl)) (by kernel_rfl)) (by kernel_rfl)) (by kernel_rfl)) (by kernel_rfl)) (by kernel_rfl)) p_plain) (by kernel_rfl)) p_heard) p_enter) p_lifts) p_make) (by kernel_rfl)) (by kernel_rfl)) (by kernel_rfl)) (by kernel_rfl))
theorem machineNil_over : Rows.machineNilRow.holds Tryz.pinned (OpenSpec.ofChange Rows.machineNilSpec) :=
  OpenClaim.holds_of_wide 3 Tryz.f3 rfl rfl rfl rfl rfl rfl rfl ⟨rfl, rfl, rfl, rfl, rfl⟩ rfl rfl rfl rfl rfl machineNil_named Tryz.func3 machineNil_joined
    (of_decide_eq_true (by kernel_rfl)) (by unfold Func.isWrapper; first | (rw [if_pos (by decide +kernel)]; kernel_rfl) | (rw [if_neg (by decide +kernel)]; exact ⟨rfl, rfl⟩))
    (fun os started H enc _ => machineNil_lifted os started H enc)
/-- ████ THE STATEMENT ████ -/
theorem machineNil_proved : Rows.MachineNilCardSaid :=
  Claim7.holds_tied_plain_at .later [] Rows.machineNilCard.laidKinds true Rows.machineNilCard.stood.harness false
    machineNil_over (fun _ h => by cases h) (by kernel_rfl) (fun _ h => by cases h) machineNil_row_tie rfl ⟨rfl, rfl⟩ p_main rfl
    (fun f fn hf hfn => by
      obtain rfl : f = 3 := Option.some.inj (machineNil_named.symm.trans hf) |>.symm
      obtain rfl : fn = Tryz.f3 := (Option.some.inj (Tryz.func3.symm.trans hfn)).symm
      exact ⟨p_looks, fun j t ht => by
        rw [Tryz.params3] at ht
        have hm : t ∈ [23] := by simpa using Array.mem_of_getElem? ht
        have hall : ([23].all fun u => !Tryz.prog.wantsStandIn u) = true := by kernel_rfl
        exact (show Tryz.prog.wantsStandIn t = false by simpa using List.all_eq_true.1 hall t hm)⟩)
    machineNil_goes
end Go.Proofs.YtajjljbmfdboaaaGreatDoor
end
