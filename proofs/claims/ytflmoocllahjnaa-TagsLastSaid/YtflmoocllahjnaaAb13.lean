/- The abstract machine: a run of it is one of the model's (calls, rounds, code). -/
import Derived.Test.YtflmoocllahjnaaAb12
import Derived.RangeFuncIn
namespace Go.Ab
open Go.RowKit
variable {P : Program} {B : Nat} {ρ : Rho} {h : AH} {w : World} {K : FuncId → List Value → Option Value}

theorem evo_of_below (hi : Inv P B ρ h w) {w' : World} (hb : Below w.heap.size w w') : Evo P B ρ h w ρ h w' :=
  { Evo.refl hi with
    inv := {
      blk := fun i o hg b s hr => by
        obtain ⟨o', h1, h2⟩ := hi.blk i o hg b s hr
        exact ⟨o', (hb.block b (Array.getElem?_eq_some_iff.1 h1).1).trans h1, h2⟩
      inj := hi.inj, low := hi.low, old := hi.old, fresh := hi.fresh, freshG := hi.freshG, glob := hi.glob, size := Nat.le_trans hi.size hb.size, bn := hi.bn }
    frame := fun b hlt _ => hb.block b hlt
    size := hb.size
    os := hb.os
    out := hb.output
    tape := hb.tape }

mutual
theorem plainV_eq {ρ : Rho} : ∀ (v v' : Value), plainV v = true → VRel ρ v v' → v' = v
  | .bool _, _, _, k => by simp only [VRel] at k; exact k
  | .int _ _, _, _, k => by simp only [VRel] at k; exact k
  | .float _ _, _, _, k => by simp only [VRel] at k; exact k
  | .complex _ _ _, _, _, k => by simp only [VRel] at k; exact k
  | .string _, _, _, k => by simp only [VRel] at k; exact k
  | .pointer none, _, _, k => by simp only [VRel] at k; exact k
  | .pointer (some _), _, h, _ => by simp [plainV] at h
  | .slice none _ _, _, _, k => by simp only [VRel] at k; exact k
  | .slice (some _) _ _, _, h, _ => by simp [plainV] at h
  | .map none, _, _, k => by simp only [VRel] at k; exact k
  | .map (some _), _, h, _ => by simp [plainV] at h
  | .chan _, _, h, _ => by simp [plainV] at h
  | .func _ _ _, _, h, _ => by simp [plainV] at h
  | .nilFunc, _, _, k => by simp only [VRel] at k; exact k
  | .iface _ v, _, h, k => by
    simp only [VRel] at k; simp only [plainV] at h
    obtain ⟨u, hu, rfl⟩ := k
    rw [plainV_eq v u h hu]
  | .nilIface, _, _, k => by simp only [VRel] at k; exact k
  | .agg cs, _, h, k => by
    simp only [VRel] at k; simp only [plainV] at h
    obtain ⟨u, hu, rfl⟩ := k
    rw [plainA_eq cs u h hu]
  | .tuple cs, _, h, k => by
    simp only [VRel] at k; simp only [plainV] at h
    obtain ⟨u, hu, rfl⟩ := k
    rw [plainA_eq cs u h hu]
theorem plainA_eq {ρ : Rho} : ∀ (v v' : Array Value), plainA v = true → ARel ρ v v' → v' = v
  | ⟨l⟩, a, h, k => by
    simp only [plainA] at h; simp only [ARel] at k
    have := plainL_eq l a.toList h k
    cases a; simp at this; subst this; rfl
theorem plainL_eq {ρ : Rho} : ∀ (l l' : List Value), plainL l = true → LRel ρ l l' → l' = l
  | [], _, _, k => by simp only [LRel] at k; exact k
  | v :: l, _, h, k => by
    simp only [LRel] at k; simp only [plainL, Bool.and_eq_true] at h
    obtain ⟨v', t', h1, h2, rfl⟩ := k
    rw [plainV_eq v v' h.1 h1, plainL_eq l t' h.2 h2]
end

/-! ### Results -/
theorem results_list (hi : Inv P B ρ h w) {env : List Value} {tmps : Array Value} (he : LRel ρ env tmps.toList) : ∀ (rs : List ResultVar) (vs : List Value), aresults P h env rs = some vs →
    ∃ vs', (rs.mapM (m := Sem) fun | .tmp t => pure (tmps.getD t undef) | .cell a t => do loadVar t (← asAddr (tmps.getD a undef))).run P w = .ok vs' w ∧ LRel ρ vs vs'
  | [], vs, hv => by simp only [aresults, Option.some.injEq] at hv; subst hv; exact ⟨[], by simp, LRel.nil⟩
  | .tmp t :: rs, vs, hv => by
    simp only [aresults, Option.map_eq_some_iff] at hv
    obtain ⟨l, hl, rfl⟩ := hv
    obtain ⟨vs', hr, hrel⟩ := results_list hi he rs l hl
    refine ⟨tmps.getD t undef :: vs', ?_, LRel.cons ?_ hrel⟩
    · simp only [List.mapM_cons, Sem.run_bind, Sem.run_pure, Result.andThen_ok, hr]
    · have := he.getD t; simpa [List.getD_eq_getElem?_getD] using this
  | .cell a t :: rs, vs, hv => by
    simp only [aresults] at hv
    split at hv
    · rename_i ad ha
      split at hv
      · rename_i v l h1 h2
        cases hv
        obtain ⟨vs', hr, hrel⟩ := results_list hi he rs l h2
        have hp : VRel ρ (env.getD a undef) (tmps.getD a undef) := by have := he.getD a; simpa [List.getD_eq_getElem?_getD] using this
        rw [ha] at hp
        obtain ⟨v', hv', hvr⟩ := load_sound hi hp h1
        refine ⟨v' :: vs', ?_, LRel.cons hvr hrel⟩
        simp only [VRel] at hp
        obtain ⟨b, s, _, hpe⟩ := hp
        have hl : (do loadVar t (← asAddr (tmps.getD a undef)) : Sem Value).run P w = .ok v' w := by
          rw [hpe] at hv' ⊢
          simp only [Instr.loadAt, Instr.sureAddr, Sem.run_bind, Sem.run_pure, Result.andThen_ok] at hv'
          simp only [asAddr, Sem.run_bind, Sem.run_pure, Result.andThen_ok, hv']
        simp only [List.mapM_cons]
        rw [Sem.run_bind, hl]
        simp only [Result.andThen_ok, Sem.run_bind, hr, Sem.run_pure]
      · cases hv
    · cases hv
theorem results_run (hi : Inv P B ρ h w) {env : List Value} {tmps : Array Value} (he : LRel ρ env tmps.toList) {fn : Func} {vs : List Value} (hv : aresults P h env fn.results.toList = some vs) :
    ∃ v', (results fn tmps).run P w = .ok v' w ∧ VRel ρ (oneOf vs) v' := by
  obtain ⟨vs', hr, hrel⟩ := results_list hi he _ _ hv
  have hm : (fn.results.mapM (m := Sem) fun | .tmp t => pure (tmps.getD t undef) | .cell a t => do loadVar t (← asAddr (tmps.getD a undef))).run P w = .ok ⟨vs'⟩ w := by
    rw [Array.mapM_eq_mapM_toList]
    simp only [Sem.run_map]
    rw [hr]
    rfl
  refine ⟨oneOf vs', ?_, ?_⟩
  · unfold results
    rw [Sem.run_bind]
    generalize hX : Sem.run P (Array.mapM _ fn.results) w = X
    have hX' : X = .ok ⟨vs'⟩ w := hX.symm.trans hm
    rw [hX']
    simp only [Result.andThen_ok, Sem.run_pure, Result.ok.injEq, and_true]
    match vs' with
    | [] => rfl
    | [v] => rfl
    | v :: u :: l => simp [oneOf]
  · match vs, vs', hrel with
    | [], [], _ => simp only [oneOf, VRel]; exact ⟨_, by simp only [ARel]; exact LRel.nil, rfl⟩
    | [v], [v'], hh => exact (LRel.cons_iff.1 hh).1
    | v :: u :: l, v' :: u' :: l', hh => simp only [oneOf, VRel]; exact ⟨_, by simp only [ARel]; exact hh, rfl⟩
    | [], _ :: _, hh => simp [LRel] at hh
    | [_], [], hh => have := hh.length; simp at this
    | [_], _ :: _ :: _, hh => have := hh.length; simp at this
    | _ :: _ :: _, [], hh => have := hh.length; simp at this
    | _ :: _ :: _, [_], hh => have := hh.length; simp at this

/-! ### The marks of deferred calls -/
theorem getObj_run {r : Nat} {o : Obj} (ho : w.heap[r]? = some o) (hc : ∀ c e f, o ≠ .cells c e f) : (getObj r).run P w = .ok o w := by
  simp only [getObj, Sem.run, ho]
theorem setObj_run {r : Nat} {o o' : Obj} (ho : w.heap[r]? = some o) (hc : ∀ c e f, o ≠ .cells c e f) : (setObj r o').run P w = .ok () { w with heap := w.heap.setIfInBounds r o' } := by
  simp only [setObj, Sem.run, ho]
theorem step_collected {fr : Frame} {cs : List Frame} {r : Nat} {args : Array Value} {ds : List Deferred} {w' : World} (hm : fr.mode = .returning) (hd : fr.defers = { target := .collected r, args := args } :: ds)
    (hr : (Instr.takeDeferred r).run P w = .ok [] w') : step P (lone fr cs w) = .next (lone { fr with defers := ds } cs w') :=
  step_lone_go (by simp [stepG, unwind, hm, hd, Sem.runT_eq, hr, GStep.bare_after])
theorem close_steps : ∀ (ds : List Nat) (h h2 : AH) (w : World) (fr : Frame) (cs : List Frame), closeMarks ds h = some h2 → Inv P B ρ h w → DRel ρ ds fr.defers → fr.mode = .returning →
    ∃ w', Evo P B ρ h w ρ h2 w' ∧ Steps P (lone fr cs w) (lone { fr with defers := [] } cs w')
  | [], h, h2, w, fr, cs, hc, hi, hd, _ => by
    simp only [closeMarks, Option.some.injEq] at hc; subst hc
    simp only [DRel] at hd
    refine ⟨w, Evo.refl hi, ?_⟩
    rw [← hd]
    exact Steps.refl _ _
  | d :: ds, h, h2, w, fr, cs, hc, hi, hd, hm => by
    simp only [closeMarks] at hc
    split at hc
    · rename_i hbase
      split at hc
      · rename_i hg
        obtain ⟨b, s, t, hr, ht, hdt⟩ := hd
        obtain ⟨o', ho, hb⟩ := hi.blk _ _ hg b s hr
        simp only [BRel, if_true] at hb
        subst hb
        have hnc : ∀ c e f, Obj.deferred (some []) ≠ .cells c e f := fun _ _ _ hh => by cases hh
        have hrun : (Instr.takeDeferred b).run P w = .ok [] { w with heap := w.heap.setIfInBounds b (.deferred none) } := by
          simp only [Instr.takeDeferred, Sem.run_bind, getObj_run ho hnc, Result.andThen_ok, setObj_run ho hnc, Sem.run_pure]
        have hevo := evo_set hi hbase hg hr (o := .marks false) (o' := .deferred none) (w' := { w with heap := w.heap.setIfInBounds b (.deferred none) }) (by simp [BRel]) rfl rfl rfl rfl
        obtain ⟨w', he2, hs2⟩ := close_steps ds _ h2 _ { fr with defers := t } cs hc hevo.inv ht hm
        exact ⟨w', hevo.trans he2, .head (step_collected hm hdt hrun) hs2⟩
      · cases hc
    · cases hc

/-! ### A call -/
theorem call_sound (C : Ctx P B K) {R : Run} (hR : RunOk C R) {f : FuncId} {args : List Value} {h : AH} {out : Out} {h' : AH}
    (hr : runCall P K R f args h = some (out, h')) : SimCall C f args h out.v h' := by
  intro ρ w args' hi hg ha
  unfold runCall at hr
  split at hr
  · rename_i v hk
    cases hr
    obtain ⟨h1, h2, h3⟩ := C.call f args v w hk hg
    rw [plainL_eq _ _ h1 ha]
    exact h3.mono fun e w' ⟨he, hb⟩ => ⟨ρ, v, he, plainV_rel v h2, evo_of_below hi hb⟩
  · split at hr
    · rename_i fn hf
      split at hr
      · rename_i body hb
        split at hr
        · rename_i o h1 hrun
          have hsim := hR _ _ _ _ hrun
          intro cs
          have hlen := ha.length
          have hte : Frame.enter P f ⟨args'⟩ .normal = ({ (default : Frame) with fn := f, kind := .normal } : Frame).atR { tmps := ⟨args' ++ List.replicate (fn.ntmps - args.length) undef⟩, defers := [] } [.code body] := by
            simp only [Frame.enter, Frame.atR, hf, Option.map_some, Option.getD_some, Option.bind_some, hb]
            congr 1
            · apply Array.ext'
              simp [hlen]
          obtain ⟨ρ1, w1, a1, k1, e1, r1, d1, s1, l1⟩ := hsim ρ w { (default : Frame) with fn := f, kind := .normal } { tmps := ⟨args' ++ List.replicate (fn.ntmps - args.length) undef⟩, defers := [] } cs hi hg rfl rfl
            (ha.append (LRel.replicate _ undef_rel)) rfl
          rw [← hte] at s1
          have hleave : (∀ id, o.leave ≠ .exit id) ∧ ∃ h2, closeMarks o.ds h1 = some h2 ∧ ∃ vs, aresults P h2 o.env fn.results.toList = some vs ∧ out = ⟨.fell, [], [], oneOf vs⟩ ∧ h' = h2 := by
            split at hr
            · cases hr
            · rename_i hne
              split at hr
              · rename_i h2 hcm
                simp only [Option.map_eq_some_iff] at hr
                obtain ⟨vs, hvs, hr⟩ := hr
                cases hr
                exact ⟨hne, _, hcm, vs, hvs, rfl, rfl⟩
              · cases hr
          obtain ⟨hne, h2, hcm, vs, hvs, hout, hh2⟩ := hleave
          subst hout; subst hh2
          have hret : Steps P (lone (({ (default : Frame) with fn := f, kind := .normal } : Frame).atR a1 k1) cs w1) (lone { ({ (default : Frame) with fn := f, kind := .normal } : Frame).atR a1 k1 with mode := .returning } cs w1) := by
            cases hl : o.leave with
            | fell => rw [hl] at l1; simp only [LeaveK] at l1; subst l1; exact .one (stepR_end rfl)
            | ret => rw [hl] at l1; obtain ⟨k2, rfl⟩ := l1; exact .one (stepR_ret rfl)
            | exit id => exact absurd hl (hne id)
          obtain ⟨w2, e2, s2⟩ := close_steps o.ds h1 h' w1 { ({ (default : Frame) with fn := f, kind := .normal } : Frame).atR a1 k1 with mode := .returning } cs hcm e1.inv d1 rfl
          obtain ⟨v', hres, hrel⟩ := results_run e2.inv (LRel.mono e2.ext _ _ r1) hvs
          exact ⟨.returned v', w2, _, ⟨ρ1, v', rfl, hrel, e1.trans e2⟩, (s1.trans hret).trans s2, rfl, rfl, rfl, rfl, fn, hf, hres⟩
        · cases hr
      · cases hr
    · cases hr

end Go.Ab
