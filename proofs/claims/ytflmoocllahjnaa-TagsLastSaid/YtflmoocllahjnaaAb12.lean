/- The abstract machine: a run of it is one of the model's (steps; operations; calls). -/
import Derived.Test.YtflmoocllahjnaaAb11
namespace Go.Ab
open Go.RowKit
variable {P : Program} {B : Nat} {ρ : Rho} {h : AH} {w : World}

/-! ### The frame -/
theorem aeval_rel (hi : Inv P B ρ h w) {env : List Value} {a : Act} (he : LRel ρ env a.tmps.toList) (x : Operand) : VRel ρ (aeval P env x) (a.eval x) := by
  cases x with
  | tmp t =>
    have := he.getD t
    simpa [aeval, Act.eval, List.getD_eq_getElem?_getD] using this
  | const v =>
    simp only [aeval, Act.eval]
    split
    · rename_i hp; exact plainV_rel v hp
    · simp only [top, VRel]
  | global g =>
    simp only [aeval, Act.eval]
    split
    · rename_i hg; simp only [VRel]; exact ⟨g, 0, hi.glob g hg, rfl⟩
    · simp only [top, VRel]
  | func f =>
    simp only [aeval, Act.eval, VRel, FRel]
    exact ⟨_, _, _, rfl, by simp only [ARel]; exact LRel.nil, by simp only [ARel]; exact LRel.nil, rfl⟩
theorem aput_rel {env : List Value} {a : Act} {v v' : Value} (d : Option Tmp) (he : LRel ρ env a.tmps.toList) (hv : VRel ρ v v') : LRel ρ (aput env d v) (a.put d v').tmps.toList := by
  cases d with
  | none => exact he
  | some d => simpa [aput, Act.put] using he.set d hv
theorem put_defers {a : Act} {d : Option Tmp} {v : Value} : (a.put d v).defers = a.defers := by cases d <;> rfl
theorem undef_rel : VRel ρ undef undef := plainV_rel undef (by simp [undef, plainV, plainA, plainL])
theorem wanted_rel {all : Array Oper} {env : List Value} {a : Act} {o : Oper} {t : Bool} (he : LRel ρ env a.tmps.toList) (hw : aWanted all env o = some t) : Region.wanted o (yielded all a.tmps) = t := by
  unfold aWanted at hw
  unfold Region.wanted yielded
  split at hw
  · rename_i hg; rw [hg]; cases hw; rfl
  · rename_i j want hg
    rw [hg]
    simp only
    cases hd : (all[j]?).bind (·.dst) with
    | none => rw [hd] at hw; simp at hw; subst hw; rfl
    | some d =>
      rw [hd] at hw
      simp only [Option.bind_some] at hw ⊢
      cases hv : env[d]? with
      | none =>
        have := he.get_none hv
        rw [hv] at hw; simp at hw; subst hw
        have h2 : a.tmps[d]? = none := by simpa using this
        rw [h2]; rfl
      | some v =>
        obtain ⟨v', hv', hr⟩ := he.get hv
        have h2 : a.tmps[d]? = some v' := by simpa using hv'
        rw [hv] at hw
        rw [h2]
        cases v with
        | bool b => simp only [VRel] at hr; subst hr; simp at hw; subst hw; simp
        | chan r => simp at hw
        | agg cs => simp only [VRel] at hr; obtain ⟨_, _, rfl⟩ := hr; simp at hw; subst hw; rfl
        | tuple cs => simp only [VRel] at hr; obtain ⟨_, _, rfl⟩ := hr; simp at hw; subst hw; rfl
        | iface u x => simp only [VRel] at hr; obtain ⟨_, _, rfl⟩ := hr; simp at hw; subst hw; rfl
        | func fn f c => simp only [VRel] at hr; obtain ⟨_, _, _, _, _, _, rfl⟩ := hr; simp at hw; subst hw; rfl
        | pointer p => cases p with
          | none => simp only [VRel] at hr; subst hr; simp at hw; subst hw; rfl
          | some p => simp only [VRel] at hr; obtain ⟨_, _, _, rfl⟩ := hr; simp at hw; subst hw; rfl
        | map p => cases p with
          | none => simp only [VRel] at hr; subst hr; simp at hw; subst hw; rfl
          | some p => simp only [VRel] at hr; obtain ⟨_, _, _, rfl⟩ := hr; simp at hw; subst hw; rfl
        | slice p _ _ => cases p with
          | none => simp only [VRel] at hr; subst hr; simp at hw; subst hw; rfl
          | some p =>
            obtain ⟨_, _, sp⟩ := p
            cases sp with
            | none => simp only [VRel] at hr; obtain ⟨_, _, _, _, _, _, rfl⟩ := hr; simp at hw; subst hw; rfl
            | some _ => simp only [VRel] at hr; obtain ⟨_, _, _, _, rfl⟩ := hr; simp at hw; subst hw; rfl
        | _ => simp only [VRel] at hr; subst hr; simp at hw; subst hw; rfl

/-! ### The model's steps at an operation -/
section steps
variable {b : Frame} {a : Act} {k : List Item} {cs : List Frame} {all : Array Oper} {i : Nat} {is : List Nat} {o : Oper}
theorem stepV (ho : all[i]? = some o) (hw : Region.wanted o (yielded all a.tmps) = true) (hd : ∀ c, o.op ≠ .defer c) {v : Value} {w w' : World} (hr : (execOp a.eval o).run P w = .ok (.value v) w') :
    step P (lone (b.atR a (.inRegion all (i :: is) :: k)) cs w) = .next (lone (b.atR (a.put o.dst v) (.inRegion all is :: k)) cs w') := by
  refine step_lone_go ?_
  rw [stepGR_op ho hw, Oper.semAt_eq _ _ _ hd]
  simp [stepG.apply, Sem.runT_eq, hr, GStep.bare_after, Frame.finish_atR, ho]
theorem stepS (ho : all[i]? = some o) (hw : Region.wanted o (yielded all a.tmps) = true) (hd : ∀ c, o.op ≠ .defer c) {w w' : World} (hr : (execOp a.eval o).run P w = .ok .skip w') :
    step P (lone (b.atR a (.inRegion all (i :: is) :: k)) cs w) = .next (lone (b.atR (a.put o.dst undef) (.inRegion all is :: k)) cs w') := by
  refine step_lone_go ?_
  rw [stepGR_op ho hw, Oper.semAt_eq _ _ _ hd]
  simp [stepG.apply, Sem.runT_eq, hr, GStep.bare_after, Frame.finish_atR, ho]
theorem stepE (ho : all[i]? = some o) (hw : Region.wanted o (yielded all a.tmps) = true) (hd : ∀ c, o.op ≠ .defer c) {f : FuncId} {args : Array Value} {w w' : World} (hr : (execOp a.eval o).run P w = .ok (.enter f args) w') :
    step P (lone (b.atR a (.inRegion all (i :: is) :: k)) cs w) = .next (lone (Frame.enter P f args .normal) (b.atR a (.inRegion all (i :: is) :: k) :: cs) w') := by
  refine step_lone_go ?_
  rw [stepGR_op ho hw, Oper.semAt_eq _ _ _ hd]
  simp [stepG.apply, Sem.runT_eq, hr, GStep.bare_after, Frame.atR]
theorem stepRd (ho : all[i]? = some o) (hw : Region.wanted o (yielded all a.tmps) = true) (hd : ∀ c, o.op ≠ .defer c) {l : Nat} {f : FuncId} {tmps : Array Value} {as bd : Code} {w w' : World} (hr : (execOp a.eval o).run P w = .ok (.round l f tmps as bd) w') :
    step P (lone (b.atR a (.inRegion all (i :: is) :: k)) cs w) = .next (lone (Frame.round l f tmps as bd .normal) (b.atR a (.inRegion all (i :: is) :: k) :: cs) w') := by
  refine step_lone_go ?_
  rw [stepGR_op ho hw, Oper.semAt_eq _ _ _ hd]
  simp [stepG.apply, Sem.runT_eq, hr, GStep.bare_after, Frame.atR]
end steps

/-! ### What a run of the abstract machine says of the model's -/
def RoRel (ρ : Rho) : Option Nat → Option Nat → Prop
  | none, r => r = none
  | some l, r => ∃ b s, ρ l = some (b, s) ∧ r = some b
def DRel (ρ : Rho) : List Nat → List Deferred → Prop
  | [], ds => ds = []
  | d :: l, ds => ∃ b s t, ρ d = some (b, s) ∧ DRel ρ l t ∧ ds = { target := .collected b, args := #[] } :: t
theorem RoRel.mono {ρ ρ' : Rho} (h : Ext ρ ρ') {r r' : Option Nat} (k : RoRel ρ r r') : RoRel ρ' r r' := by
  cases r with
  | none => exact k
  | some l => obtain ⟨b, s, h1, h2⟩ := k; exact ⟨b, s, h _ _ h1, h2⟩
theorem DRel.mono {ρ ρ' : Rho} (h : Ext ρ ρ') : ∀ {l : List Nat} {ds : List Deferred}, DRel ρ l ds → DRel ρ' l ds
  | [], _, k => k
  | _ :: _, _, ⟨b, s, t, h1, h2, h3⟩ => ⟨b, s, t, h _ _ h1, DRel.mono h h2, h3⟩
def LeaveK : Leave → List Item → Prop
  | .fell, k => k = []
  | .ret, k => ∃ k2, k = .code .ret :: k2
  | .exit id, k => ∃ k2, k = .code (.exit id) :: k2 ∧ exitTo id k2 = none
def OpsAt (all : Array Oper) : List Nat → List Oper → Prop
  | [], [] => True
  | i :: is, o :: os => all[i]? = some o ∧ OpsAt all is os
  | _, _ => False

/-- What is known besides of the world: of blocks below 'B' alone. -/
structure Ctx (P : Program) (B : Nat) (K : FuncId → List Value → Option Value) where
  G : World → Prop
  keep : ∀ w w', Below B w w' → G w → G w'
  call : ∀ f args v w, K f args = some v → G w → plainL args = true ∧ plainV v = true ∧ Calls P f ⟨args⟩ w fun e w' => e = .returned v ∧ Below w.heap.size w w'

variable {K : FuncId → List Value → Option Value}

def SimCall (C : Ctx P B K) (f : FuncId) (args : List Value) (h : AH) (v : Value) (h' : AH) : Prop :=
  ∀ (ρ : Rho) (w : World) (args' : List Value), Inv P B ρ h w → C.G w → LRel ρ args args' →
    Calls P f ⟨args'⟩ w fun e w' => ∃ ρ' v', e = .returned v' ∧ VRel ρ' v v' ∧ Evo P B ρ h w ρ' h' w'
def SimRound (C : Ctx P B K) (l : Nat) (args : List Value) (h : AH) (v : Value) (h' : AH) : Prop :=
  ∀ (ρ : Rho) (w : World) (args' : List Value) (lb s : Nat), Inv P B ρ h w → C.G w → LRel ρ args args' → ρ l = some (lb, s) →
    ∃ f tmps as bd, (Instr.yield lb ⟨args'⟩).run P w = .ok (.round lb f tmps as bd) w ∧
      ∀ (c : Frame) (cs : List Frame), ∃ ρ' v' w', VRel ρ' v v' ∧ Evo P B ρ h w ρ' h' w' ∧ Steps P (lone (Frame.round lb f tmps as bd .normal) (c :: cs) w) (lone (c.finish v') cs w')
def SimTodo (C : Ctx P B K) (fn : FuncId) (ro : Option Nat) (ds : List Nat) (env : List Value) (k : List Item) (h : AH) (out : Out) (h' : AH) : Prop :=
  ∀ (ρ : Rho) (w : World) (b : Frame) (a : Act) (cs : List Frame), Inv P B ρ h w → C.G w → b.fn = fn → RoRel ρ ro b.roundOf → LRel ρ env a.tmps.toList → DRel ρ ds a.defers →
    ∃ ρ' w' a' k', Evo P B ρ h w ρ' h' w' ∧ LRel ρ' out.env a'.tmps.toList ∧ DRel ρ' out.ds a'.defers ∧ Steps P (lone (b.atR a k) cs w) (lone (b.atR a' k') cs w') ∧ LeaveK out.leave k'
def SimOps (C : Ctx P B K) (all : Array Oper) (rest : List Oper) (env : List Value) (h : AH) (out : Out) (h' : AH) : Prop :=
  ∀ (ρ : Rho) (w : World) (b : Frame) (a : Act) (cs : List Frame) (is : List Nat) (k : List Item), Inv P B ρ h w → C.G w → LRel ρ env a.tmps.toList → OpsAt all is rest →
    ∃ ρ' w' a', Evo P B ρ h w ρ' h' w' ∧ LRel ρ' out.env a'.tmps.toList ∧ a'.defers = a.defers ∧ Steps P (lone (b.atR a (.inRegion all is :: k)) cs w) (lone (b.atR a' (.inRegion all [] :: k)) cs w')
def Sim (C : Ctx P B K) : Task → AH → Out → AH → Prop
  | .todo fn ro ds env k, h, out, h' => SimTodo C fn ro ds env k h out h'
  | .ops all rest env, h, out, h' => SimOps C all rest env h out h'
  | .call f args, h, out, h' => SimCall C f args h out.v h'
  | .round l args, h, out, h' => SimRound C l args h out.v h'
def RunOk (C : Ctx P B K) (R : Run) : Prop := ∀ t h out h', R t h = some (out, h') → Sim C t h out h'

theorem Evo.G (C : Ctx P B K) (hi : Inv P B ρ h w) {ρ' : Rho} {h' : AH} {w' : World} (e : Evo P B ρ h w ρ' h' w') (hg : C.G w) : C.G w' := C.keep _ _ (e.below hi) hg

/-- ONE OPERATION, AT THE MODEL. -/
def OpDone (P : Program) (B : Nat) (ρ : Rho) (h : AH) (w : World) (b : Frame) (a : Act) (all : Array Oper) (i : Nat) (is : List Nat) (k : List Item) (cs : List Frame) (o : Oper) (v : Value) (h' : AH) : Prop :=
  ∃ ρ' w' v', Evo P B ρ h w ρ' h' w' ∧ VRel ρ' v v' ∧ Steps P (lone (b.atR a (.inRegion all (i :: is) :: k)) cs w) (lone (b.atR (a.put o.dst v') (.inRegion all is :: k)) cs w')

theorem callable_run {g : FuncId} (hc : callable P g = true) (args : Array Value) : (callFunc g args).run P w = .ok (.enter g args) w := by
  unfold callable at hc
  cases hf : P.funcs[g]? with
  | none => simp [hf] at hc
  | some fn =>
    rw [hf] at hc
    simp only [Bool.and_eq_true, Bool.not_eq_true'] at hc
    have hb : fn.body.isNone = false := by cases hb : fn.body with | none => rw [hb] at hc; cases hc.1 | some _ => rfl
    simp only [callFunc, Sem.run_bind, run_program, Result.andThen_ok, hf, hc.2, Bool.false_eq_true, if_false, hb, Sem.run_pure]

theorem heavy_sound (C : Ctx P B K) {R : Run} (hR : RunOk C R) (hi : Inv P B ρ h w) (hg : C.G w) {ev : Operand → Value} {b : Frame} {a : Act} (hev : ∀ x, VRel ρ (ev x) (a.eval x)) {all : Array Oper} {i : Nat} {is : List Nat}
    (k : List Item) (cs : List Frame) {o : Oper} (ho : all[i]? = some o) (hw : Region.wanted o (yielded all a.tmps) = true) {v : Value} {h' : AH} (hv : heavyStep P R ev h o.op = some (v, h')) :
    OpDone P B ρ h w b a all i is k cs o v h' := by
  obtain ⟨dst, op, ty, pos, after, guard⟩ := o
  simp only at hv
  unfold heavyStep at hv
  split at hv
  · -- a store
    rename_i t x y
    split at hv
    · rename_i ad hx
      simp only [Option.map_eq_some_iff] at hv
      obtain ⟨h2, hst, hv⟩ := hv
      cases hv
      have h1 := hev x
      rw [hx] at h1
      obtain ⟨w', hr, hevo⟩ := store_sound hi h1 (hev y) hst
      refine ⟨ρ, w', undef, hevo, undef_rel, .one (stepS ho hw (fun c hc => by cases hc) ?_)⟩
      simp [execOp, hr]
    · cases hv
  · rename_i c
    obtain ⟨callee, args, argTypes⟩ := c
    simp only at hv
    split at hv
    · -- a builtin
      rename_i bi
      obtain ⟨ρ', w', v', hevo, hrel, hr⟩ := bltin_sound (ty := ty) (consts := args.map fun | .const _ => true | _ => false) (args' := args.toList.map a.eval) hi (LRel.map_ev hev _) hv
      refine ⟨ρ', w', v', hevo, hrel, .one (stepV ho hw (fun c hc => by cases hc) ?_)⟩
      have : args.map a.eval = ⟨args.toList.map a.eval⟩ := Array.ext' (by simp)
      simp only [execOp, resolve, Sem.run_bind, Sem.run_pure, Result.andThen_ok, invoke]
      rw [this]
      exact hr
    · rename_i f
      split at hv
      · -- a function
        rename_i g first captured hf
        split at hv
        · rename_i hcal
          simp only [Option.map_eq_some_iff] at hv
          obtain ⟨⟨out, h2⟩, hrun, hv⟩ := hv
          cases hv
          have h1 := hev f
          rw [hf] at h1
          simp only [VRel, FRel] at h1
          obtain ⟨_, fs', cs', rfl, hfs, hcs, hfe⟩ := h1
          have hargs : LRel ρ (first.toList ++ args.toList.map ev ++ captured.toList) (fs'.toList ++ args.toList.map a.eval ++ cs'.toList) :=
            ((ARel_iff.1 hfs).append (LRel.map_ev hev _)).append (ARel_iff.1 hcs)
          have hcall := hR _ _ _ _ hrun ρ w _ hi hg hargs (b.atR a (.inRegion all (i :: is) :: k) :: cs)
          obtain ⟨e, w', fr, ⟨ρ', v', rfl, hrel, hevo⟩, hcomes, _, hleave⟩ := hcall
          refine ⟨ρ', w', v', hevo, hrel, ?_⟩
          have hent : (execOp a.eval { dst := dst, op := .call { callee := .value f, args := args, argTypes := argTypes }, type := ty, pos := pos, after := after, guard := guard }).run P w = .ok (.enter g ⟨fs'.toList ++ args.toList.map a.eval ++ cs'.toList⟩) w := by
            simp only [execOp, resolve, Sem.run_bind, hfe, Deferred.ofValue, Sem.run_pure, Result.andThen_ok, invoke, callable_run hcal]
            congr 3
            exact Array.ext' (by simp)
          refine .head (stepE ho hw (fun c hc => by cases hc) hent) (Steps.trans hcomes (.one ?_))
          rw [step_leave_returned hleave, Frame.finish_atR, ho]
          rfl
        · cases hv
      · -- yield
        rename_i l first captured hf
        simp only [Option.map_eq_some_iff] at hv
        obtain ⟨⟨out, h2⟩, hrun, hv⟩ := hv
        cases hv
        have h1 := hev f
        rw [hf] at h1
        simp only [VRel, FRel] at h1
        obtain ⟨_, fs', cs', ⟨lb, s, hl, rfl⟩, hfs, hcs, hfe⟩ := h1
        have hargs : LRel ρ (first.toList ++ args.toList.map ev) (fs'.toList ++ args.toList.map a.eval) :=
          (ARel_iff.1 hfs).append (LRel.map_ev hev _)
        obtain ⟨fn, tmps, as, bd, hy, hround⟩ := hR _ _ _ _ hrun ρ w _ lb s hi hg hargs hl
        obtain ⟨ρ', v', w', hrel, hevo, hsteps⟩ := hround (b.atR a (.inRegion all (i :: is) :: k)) cs
        refine ⟨ρ', w', v', hevo, hrel, ?_⟩
        have hent : (execOp a.eval { dst := dst, op := .call { callee := .value f, args := args, argTypes := argTypes }, type := ty, pos := pos, after := after, guard := guard }).run P w = .ok (.round lb fn tmps as bd) w := by
          simp only [execOp, resolve, Sem.run_bind, hfe, Deferred.ofValue, Sem.run_pure, Result.andThen_ok, invoke]
          have : fs' ++ args.map a.eval = ⟨fs'.toList ++ args.toList.map a.eval⟩ := Array.ext' (by simp)
          rw [this]
          exact hy
        have hs := Steps.head (stepRd ho hw (fun c hc => by cases hc) hent) hsteps
        rw [Frame.finish_atR, ho] at hs
        exact hs
      · cases hv
    · cases hv
  · cases hv

theorem kind_not_defer {op : Op} (h : kindOf op ≠ .other) : ∀ c, op ≠ .defer c := by
  intro c hc
  subst hc
  exact h rfl

theorem opStep_sound (C : Ctx P B K) {R : Run} (hR : RunOk C R) (hi : Inv P B ρ h w) (hg : C.G w) {env : List Value} {b : Frame} {a : Act} (he : LRel ρ env a.tmps.toList) {all : Array Oper} {i : Nat} {is : List Nat}
    (k : List Item) (cs : List Frame) {o : Oper} (ho : all[i]? = some o) (hw : Region.wanted o (yielded all a.tmps) = true) {v : Value} {h' : AH} (hv : opStep P R env h o.op = some (v, h')) :
    OpDone P B ρ h w b a all i is k cs o v h' := by
  have hev := aeval_rel hi he
  unfold opStep at hv
  split at hv
  · rename_i hk
    simp only [Option.map_eq_some_iff] at hv
    obtain ⟨u, hu, hv⟩ := hv
    cases hv
    obtain ⟨v', hr, hrel⟩ := light_sound hi hev o hu
    exact ⟨ρ, w, v', Evo.refl hi, hrel, .one (stepV ho hw (kind_not_defer (by rw [hk]; simp)) hr)⟩
  · rename_i hk
    simp only [Option.map_eq_some_iff] at hv
    obtain ⟨⟨bl, f⟩, hu, hv⟩ := hv
    cases hv
    obtain ⟨o', g, hb, hr, hval⟩ := alloc_sound (P := P) (w := w) hev o hu
    have hb' : BRel P (upd ρ h.next (w.heap.size, 0)) 0 bl o' := hb.mono (Ext.upd (hi.fresh _ (Nat.le_refl _)))
    exact ⟨_, w.alloc o', g w.heap.size, evo_alloc hi hb' rfl rfl rfl rfl, hval _ _ _ upd_same, .one (stepV ho hw (kind_not_defer (by rw [hk]; simp)) hr)⟩
  · exact heavy_sound C hR hi hg hev k cs ho hw hv
  · exact heavy_sound C hR hi hg hev k cs ho hw hv
  · cases hv

theorem ops_sound (C : Ctx P B K) {R : Run} (hR : RunOk C R) {all : Array Oper} {rest : List Oper} {env : List Value} {h : AH} {out : Out} {h' : AH}
    (hr : runOps P R all rest env h = some (out, h')) : SimOps C all rest env h out h' := by
  intro ρ w b a cs is k hi hg he hat
  unfold runOps at hr
  split at hr
  · cases hr
    cases is with
    | nil => exact ⟨ρ, w, a, Evo.refl hi, he, rfl, Steps.refl _ _⟩
    | cons i is => exact hat.elim
  · rename_i o rest
    cases is with
    | nil => exact hat.elim
    | cons i is =>
      obtain ⟨ho, hat⟩ := hat
      split at hr
      · cases hr
      · rename_i hw
        have hw' := wanted_rel he hw
        obtain ⟨ρ', w', a', h1, h2, h3, h4⟩ := hR _ _ _ _ hr ρ w b (a.put o.dst undef) cs is k hi hg (aput_rel _ he undef_rel) hat
        refine ⟨ρ', w', a', h1, h2, h3.trans put_defers, .head ?_ h4⟩
        have := stepR_op_skip (P := P) (b := b) (a := a) (k := k) (cs := cs) (w := w) (ops := all) (i := i) (rest := is) (by rw [ho]; simpa using hw')
        rw [ho] at this
        exact this
      · rename_i hw
        have hw' := wanted_rel he hw
        split at hr
        · rename_i v h2 hst
          obtain ⟨ρ1, w1, v1, e1, r1, s1⟩ := opStep_sound C hR hi hg he k cs ho hw' (b := b) (is := is) hst
          obtain ⟨ρ', w', a', g1, g2, g3, g4⟩ := hR _ _ _ _ hr ρ1 w1 b (a.put o.dst v1) cs is k e1.inv (e1.G C hi hg) (aput_rel _ (LRel.mono e1.ext _ _ he) r1) hat
          exact ⟨ρ', w', a', e1.trans g1, g2, g3.trans put_defers, s1.trans g4⟩
        · cases hr

end Go.Ab
