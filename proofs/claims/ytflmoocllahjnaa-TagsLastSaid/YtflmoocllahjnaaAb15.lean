/- The abstract machine: a run of it is one of the model's (code; all of it). -/
import Derived.Test.YtflmoocllahjnaaAb14
namespace Go.Ab
open Go.RowKit
variable {P : Program} {B : Nat} {K : FuncId → List Value → Option Value}

/-- one step of the model ahead of a run that is known -/
theorem todo_step (C : Ctx P B K) {fn : FuncId} {ro : Option Nat} {ds : List Nat} {env : List Value} {k k1 : List Item} {h : AH} {out : Out} {h' : AH}
    (hs : ∀ (b : Frame) (a : Act) (cs : List Frame) (w : World) (ρ : Rho), Inv P B ρ h w → LRel ρ env a.tmps.toList → b.fn = fn → RoRel ρ ro b.roundOf → step P (lone (b.atR a k) cs w) = .next (lone (b.atR a k1) cs w))
    (hsim : SimTodo C fn ro ds env k1 h out h') : SimTodo C fn ro ds env k h out h' := by
  intro ρ w b a cs hi hg hb hro he hd
  obtain ⟨ρ', w', a', k', h1, h2, h3, h4, h5⟩ := hsim ρ w b a cs hi hg hb hro he hd
  exact ⟨ρ', w', a', k', h1, h2, h3, .head (hs b a cs w ρ hi he hb hro) h4, h5⟩

set_option maxHeartbeats 1000000 in
theorem run_ok (C : Ctx P B K) (hdraw : ∀ R, RunOk C R → DrawOk C R) : ∀ n, RunOk C (run P K n) := by
  intro n
  induction n with
  | zero => intro t h out h' hr; simp [run] at hr
  | succ n ih =>
    intro t h out h' hr
    cases t with
    | call f args => exact call_sound C ih hr
    | round l args => exact round_sound C ih hr
    | ops all rest env => exact ops_sound C ih hr
    | todo fn ro ds env k =>
      replace hr : runTodo P (run P K n) fn ro ds env k h = some (out, h') := hr
      show SimTodo C fn ro ds env k h out h'
      unfold runTodo at hr
      split at hr
      · -- nothing is left
        cases hr
        exact fun ρ w b a cs hi _ _ _ he hd => ⟨ρ, w, a, [], Evo.refl hi, he, hd, Steps.refl _ _, rfl⟩
      · rename_i c k
        split at hr
        · exact todo_step C (fun b a cs w ρ _ _ _ _ => stepR_skip) (ih _ _ _ _ hr)
        · exact todo_step C (fun b a cs w ρ _ _ _ _ => stepR_label) (ih _ _ _ _ hr)
        · exact todo_step C (fun b a cs w ρ _ _ _ _ => stepR_seq) (ih _ _ _ _ hr)
        · rename_i c t e
          split at hr
          · rename_i bb hc
            refine todo_step C (fun b a cs w ρ hi he _ _ => ?_) (ih _ _ _ _ hr)
            have := aeval_rel hi he c
            rw [hc] at this
            simp only [VRel] at this
            exact stepR_cond this
          · cases hr
        · exact todo_step C (fun b a cs w ρ _ _ _ _ => stepR_block) (ih _ _ _ _ hr)
        · exact todo_step C (fun b a cs w ρ _ _ _ _ => stepR_loop) (ih _ _ _ _ hr)
        · exact todo_step C (fun b a cs w ρ _ _ _ _ => step_lone_go (by simp [stepG, stepG.exec, Frame.atR])) (ih _ _ _ _ hr)
        · rename_i id
          split at hr
          · rename_i k' hx
            exact todo_step C (fun b a cs w ρ _ _ _ _ => stepR_exit hx) (ih _ _ _ _ hr)
          · rename_i hx
            split at hr
            · cases hr
              exact fun ρ w b a cs hi _ _ _ he hd => ⟨ρ, w, a, .code (.exit id) :: k, Evo.refl hi, he, hd, Steps.refl _ _, ⟨k, rfl, hx⟩⟩
            · cases hr
        · cases hr
          exact fun ρ w b a cs hi _ _ _ he hd => ⟨ρ, w, a, .code .ret :: k, Evo.refl hi, he, hd, Steps.refl _ _, ⟨k, rfl⟩⟩
        · -- a region in the text's order
          rename_i id ops
          split at hr
          · rename_i o h1 hops
            intro ρ w b a cs hi hg hb hro he hd
            have hat : OpsAt ops (List.range ops.size) ops.toList := by
              have := opsAt_range ops ops.toList 0 (fun j => by simp)
              rw [List.range_eq_range']
              simpa using this
            obtain ⟨ρ1, w1, a1, e1, r1, d1, s1⟩ := ih _ _ _ _ hops ρ w b a cs (List.range ops.size) k hi hg he hat
            obtain ⟨ρ', w', a', k', h1, h2, h3, h4, h5⟩ := ih _ _ _ _ hr ρ1 w1 b a1 cs e1.inv (e1.G C hi hg) hb (hro.mono e1.ext) r1 (by rw [d1]; exact hd.mono e1.ext)
            exact ⟨ρ', w', a', k', e1.trans h1, h2, h3, .head stepR_region (s1.trans (.head stepR_region_end h4)), h5⟩
          · cases hr
        · -- a region that draws
          rename_i id ops
          split at hr
          · rename_i env' h1 hdr
            intro ρ w b a cs hi hg hb hro he hd
            have ed := evo_draw hi
            obtain ⟨ρ1, w1, a1, e1, r1, d1, s1⟩ := hdraw _ ih ops env h env' h1 hdr ρ { w with drawn := w.drawn + 1 } b a cs k (w.tape w.drawn (.order b.fn id)) ed.inv (ed.G C hi hg) he
            have e2 := ed.trans e1
            obtain ⟨ρ', w', a', k', h1, h2, h3, h4, h5⟩ := ih _ _ _ _ hr ρ1 w1 b a1 cs e2.inv (e2.G C hi hg) hb (hro.mono e2.ext) r1 (by rw [d1]; exact hd.mono e2.ext)
            exact ⟨ρ', w', a', k', e2.trans h1, h2, h3, .head stepR_region_draw (s1.trans (.head stepR_region_end h4)), h5⟩
          · cases hr
        · -- a range over a function
          rename_i f ps assign body
          split at hr
          · rename_i d h1 ds1 hdd
            split at hr
            · rename_i g first captured hf
              split at hr
              · rename_i hcal
                split at hr
                · rename_i ox h3 hcall
                  split at hr
                  · rename_i st p _ _ _ _ _ _ hgl
                    split at hr
                    · cases hr
                    · rename_i hbusy
                      split at hr
                      · rename_i h4 hsl
                        intro ρ w b a cs hi hg hb hro he hd
                        -- the block for deferred calls
                        obtain ⟨ρ1, w1, mark, d', s', e1, hd1, hdr1, henter⟩ : ∃ ρ1 w1 mark d' s', Evo P B ρ h w ρ1 h1 w1 ∧ ρ1 d = some (d', s') ∧ DRel ρ1 ds1 (mark ++ a.defers) ∧
                            (Instr.enterLoop b.fn a.tmps ps assign body b.roundOf).run P w = .ok (w1.heap.size, mark) (w1.alloc (.loop { state := .ready, pending := none, fn := b.fn, tmps := a.tmps, params := ps, assign := assign, body := body, defers := d' })) := by
                          cases ro with
                          | none =>
                            simp only [RoRel] at hro
                            simp only [Option.some.injEq, Prod.mk.injEq] at hdd
                            obtain ⟨rfl, rfl, rfl⟩ := hdd
                            have ea := evo_alloc hi (o := .marks true) (o' := .deferred (some [])) (s := 0) (w' := w.alloc (.deferred (some []))) (by simp [BRel]) rfl rfl rfl rfl
                            refine ⟨_, _, [{ target := .collected w.heap.size, args := #[] }], w.heap.size, 0, ea, upd_same, ⟨_, _, _, upd_same, hd.mono ea.ext, rfl⟩, ?_⟩
                            rw [hro]
                            simp [Instr.enterLoop]
                          | some l =>
                            obtain ⟨lb, s, hl, hro'⟩ := hro
                            simp only at hdd
                            split at hdd
                            · rename_i st0 p0 fn0 tm0 ps0 as0 bd0 d0 hg0
                              simp only [Option.some.injEq, Prod.mk.injEq] at hdd
                              obtain ⟨rfl, rfl, rfl⟩ := hdd
                              obtain ⟨tmps', d', s', _, hdd', hw⟩ := loop_at hi hg0 hl
                              refine ⟨ρ, w, [], d', s', Evo.refl hi, hdd', hd, ?_⟩
                              rw [hro']
                              simp [Instr.enterLoop, getLoop_run hw]
                            · cases hdd
                        -- the loop's record
                        have he1 := LRel.mono e1.ext _ _ he
                        have e2 := evo_alloc e1.inv (o := .loop .ready none fn env ps assign body d) (s := 0)
                          (o' := .loop { state := .ready, pending := none, fn := b.fn, tmps := a.tmps, params := ps, assign := assign, body := body, defers := d' })
                          (w' := w1.alloc (.loop { state := .ready, pending := none, fn := b.fn, tmps := a.tmps, params := ps, assign := assign, body := body, defers := d' }))
                          (by
                            have hext := Ext.upd (x := (w1.heap.size, 0)) (e1.inv.fresh h1.next (Nat.le_refl _))
                            exact ⟨a.tmps.toList, d', s', LRel.mono hext _ _ he1, hext _ _ hd1, by rw [hb]⟩) rfl rfl rfl rfl
                        have e12 := e1.trans e2
                        have hfv := aeval_rel e12.inv (a := a) (LRel.mono e2.ext _ _ he1) f
                        rw [hf] at hfv
                        simp only [VRel, FRel] at hfv
                        obtain ⟨_, fs', cs', rfl, hfs, hcs, hfe⟩ := hfv
                        have hargs : LRel (upd ρ1 h1.next (w1.heap.size, 0)) (first.toList ++ [.func (.yield h1.next) #[] #[]] ++ captured.toList) (fs'.toList ++ [.func (.yield w1.heap.size) #[] #[]] ++ cs'.toList) := by
                          refine ((ARel_iff.1 hfs).append (LRel.cons ?_ LRel.nil)).append (ARel_iff.1 hcs)
                          simp only [VRel, FRel]
                          exact ⟨_, _, _, ⟨_, _, upd_same, rfl⟩, by simp only [ARel]; exact LRel.nil, by simp only [ARel]; exact LRel.nil, rfl⟩
                        have hcalls := ih _ _ _ _ hcall _ _ _ e2.inv (e12.G C hi hg) hargs (b.atR { a with defers := mark ++ a.defers } (.inRangeFunc w1.heap.size :: k) :: cs)
                        obtain ⟨e, w3, fr, ⟨ρ3, v', rfl, _, e3⟩, hcomes, _, hleave⟩ := hcalls
                        have e123 := e12.trans e3
                        have hl3 : ρ3 h1.next = some (w1.heap.size, 0) := e3.ext _ _ upd_same
                        obtain ⟨r, hw3, ⟨st0, p0, fn0, tm0, ps0, as0, bd0, d0, hg0, hst, hpd⟩, e4⟩ := setLoop_sound e3.inv hsl hl3
                        rw [hgl] at hg0
                        cases hg0
                        have hend : (Instr.endLoop w1.heap.size).run P w3 = .ok p { w3 with heap := w3.heap.setIfInBounds w1.heap.size (.loop { r with state := .exhausted }) } := by
                          have hnb : (r.state == LoopState.busy) = false := by rw [hst]; simpa using hbusy
                          simp only [Instr.endLoop, Sem.run_bind, getLoop_run hw3, Result.andThen_ok]
                          simp only [hnb, Bool.false_eq_true, if_false, Sem.run_bind, setObj_run hw3 loop_not_cells, Result.andThen_ok, Sem.run_pure, hpd]
                        simp only [Option.getD_none] at e4
                        have e1234 := e123.trans e4
                        obtain ⟨ρ', w', a', k', g1, g2, g3, g4, g5⟩ := ih _ _ _ _ hr ρ3 { w3 with heap := w3.heap.setIfInBounds w1.heap.size (.loop { r with state := .exhausted }) } b { a with defers := mark ++ a.defers } cs e4.inv (e1234.G C hi hg) hb (hro.mono e1234.ext)
                          (LRel.mono e1234.ext _ _ he) (hdr1.mono (e2.trans (e3.trans e4)).ext)
                        refine ⟨ρ', w', a', k', e1234.trans g1, g2, g3, ?_, g5⟩
                        have hres : (resolve a.eval (rangeCall f w1.heap.size) 0).run P (w1.alloc (.loop { state := .ready, pending := none, fn := b.fn, tmps := a.tmps, params := ps, assign := assign, body := body, defers := d' })) =
                            .ok { target := .fn (.func g) cs', args := fs' ++ #[.func (.yield w1.heap.size) #[] #[]] } (w1.alloc (.loop { state := .ready, pending := none, fn := b.fn, tmps := a.tmps, params := ps, assign := assign, body := body, defers := d' })) := by
                          show (Deferred.ofValue (a.eval f) ((#[.const (.func (.yield w1.heap.size) #[] #[])] : Array Operand).map a.eval)).run P _ = _
                          rw [hfe]
                          simp [Deferred.ofValue, Act.eval]
                        have hinv : (invoke (.fn (.func g) cs') (fs' ++ #[.func (.yield w1.heap.size) #[] #[]])).run P (w1.alloc (.loop { state := .ready, pending := none, fn := b.fn, tmps := a.tmps, params := ps, assign := assign, body := body, defers := d' })) =
                            .ok (.enter g ⟨fs'.toList ++ [.func (.yield w1.heap.size) #[] #[]] ++ cs'.toList⟩) (w1.alloc (.loop { state := .ready, pending := none, fn := b.fn, tmps := a.tmps, params := ps, assign := assign, body := body, defers := d' })) := by
                          simp only [invoke]
                          rw [callable_run hcal]
                          exact congrArg (fun x => Result.ok (Next.enter g x) _) (Array.ext' (by simp))
                        refine .head (stepR_rangeFunc henter hres hinv) (Steps.trans hcomes (.head ?_ (.head (stepR_endRangeFunc hend) g4)))
                        rw [step_leave_returned hleave, finish_atR_inRangeFunc]
                      · cases hr
                  · cases hr
                · cases hr
              · cases hr
            · cases hr
          · cases hr
        · cases hr
      · exact todo_step C (fun b a cs w ρ _ _ _ _ => stepR_inBlock) (ih _ _ _ _ hr)
      · exact todo_step C (fun b a cs w ρ _ _ _ _ => step_lone_go (by simp [stepG, stepG.exec, Frame.atR])) (ih _ _ _ _ hr)
      · exact todo_step C (fun b a cs w ρ _ _ _ _ => stepR_inLoop) (ih _ _ _ _ hr)
      · -- a round begins
        split at hr
        · rename_i l
          split at hr
          · rename_i _ _ _ _ _ _ _ hgl
            split at hr
            · rename_i h1 hsl
              intro ρ w b a cs hi hg hb hro he hd
              obtain ⟨lb, s, hl, hro'⟩ := hro
              obtain ⟨r, hw, ⟨st0, p0, fn0, tm0, ps0, as0, bd0, d0, hg0, hst, hpd⟩, e1⟩ := setLoop_sound hi hsl hl
              rw [hgl] at hg0
              cases hg0
              have hbr : (Instr.beginRound lb).run P w = .ok () { w with heap := w.heap.setIfInBounds lb (.loop { r with state := .busy }) } := by
                simp only [Instr.beginRound, Sem.run_bind, getLoop_run hw, Result.andThen_ok, setObj_run hw loop_not_cells, hst]
                rfl
              simp only [Option.getD_none] at e1
              obtain ⟨ρ', w', a', k', g1, g2, g3, g4, g5⟩ := ih _ _ _ _ hr ρ _ b a cs e1.inv (e1.G C hi hg) hb ⟨lb, s, hl, hro'⟩ he hd
              exact ⟨ρ', w', a', k', e1.trans g1, g2, g3, .head (stepR_beginRound hro' hbr) g4, g5⟩
            · cases hr
          · cases hr
        · cases hr
      · cases hr

end Go.Ab
