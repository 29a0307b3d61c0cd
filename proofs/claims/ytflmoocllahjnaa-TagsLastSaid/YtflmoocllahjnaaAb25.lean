/- The abstract machine: a walk as a proposition (code). -/
import Derived.Test.YtflmoocllahjnaaAb24
namespace Go.Ab
variable {P : Program} {K : FuncId → List Value → Option Value}

/-! ### One step, and then on -/
section
variable {fn : FuncId} {ro : Option Nat} {ds : List Nat} {env : List Value} {k : List Item} {h : AH} {Q : Out → AH → Prop}
theorem ok_step {t t' : Task} {h' : AH} (hs : ∀ n, run P K (n + 1) t h = run P K n t' h') (hw : Ok P K t' h' Q) : Ok P K t h Q := by
  obtain ⟨n, r, h1, h2⟩ := hw
  exact ⟨n + 1, r, by rw [hs]; exact h1, h2⟩
theorem ok_cond {c : Operand} {t e : Code} (hw : Br (aeval P env c) (Ok P K (.todo fn ro ds env (.code t :: k)) h Q) (Ok P K (.todo fn ro ds env (.code e :: k)) h Q)) :
    Ok P K (.todo fn ro ds env (.code (.cond c t e) :: k)) h Q := by
  obtain ⟨b, hb, ht, hf⟩ := hw
  cases b with
  | true => exact ok_step (t' := .todo fn ro ds env (.code t :: k)) (fun n => by show runTodo _ _ _ _ _ _ _ _ = _; simp only [runTodo, hb, if_true]) (ht rfl)
  | false => exact ok_step (t' := .todo fn ro ds env (.code e :: k)) (fun n => by show runTodo _ _ _ _ _ _ _ _ = _; simp [runTodo, hb]) (hf rfl)
theorem ok_region {id : Nat} {ops : Array Oper} {q : List Value → AH → Prop} (hq : ∀ env' h', q env' h' → Ok P K (.todo fn ro ds env' k) h' Q) (hw : wpOps P K (fun j => (ops[j]?).bind (·.dst)) ops.toList env h [] q) :
    Ok P K (.todo fn ro ds env (.code (.region id ops false) :: k)) h Q := by
  obtain ⟨n1, o, h1, hr, hw⟩ := wpOps_sound (fun t b hm => by cases hm) hw
  obtain ⟨n2, r, hr2, hq⟩ := hq _ _ hw
  refine ⟨max n1 n2 + 1, r, ?_, hq⟩
  show runTodo P (run P K (max n1 n2)) _ _ _ _ _ _ = _
  simp only [runTodo]
  rw [run_mono (Nat.le_max_left n1 n2) _ _ _ hr]
  exact run_mono (Nat.le_max_right n1 n2) _ _ _ hr2
theorem ok_draw {id : Nat} {ops : Array Oper} {q : List Value → AH → Prop} (hq : ∀ env' h', q env' h' → Ok P K (.todo fn ro ds env' k) h' Q) (hw : wpDraw P K ops env h q) :
    Ok P K (.todo fn ro ds env (.code (.region id ops true) :: k)) h Q := by
  obtain ⟨n1, e, h1, hr, hw⟩ := wpDraw_sound hw
  obtain ⟨n2, r, hr2, hq⟩ := hq _ _ hw
  refine ⟨max n1 n2 + 1, r, ?_, hq⟩
  show runTodo P (run P K (max n1 n2)) _ _ _ _ _ _ = _
  simp only [runTodo]
  rw [drawRun_le (run_mono (Nat.le_max_left n1 n2)) hr]
  exact run_mono (Nat.le_max_right n1 n2) _ _ _ hr2
end

/-- a loop's record, its round begun -/
def beginV (h : AH) (l : Nat) : Option AH := match h.get l with
  | some (.loop .ready _ _ _ _ _ _ _) => setLoop h l .busy none
  | _ => none
/-- a loop's record, the function it ranged over having come back -/
def endV (h : AH) (l : Nat) : Option (Option Code × AH) := match h.get l with
  | some (.loop st p _ _ _ _ _ _) => if st = .busy then none else (setLoop h l .exhausted none).map fun h' => (p, h')
  | _ => none
def defersOf (h : AH) (l : Nat) : Option Nat := match h.get l with
  | some (.loop _ _ _ _ _ _ _ d) => some d
  | _ => none
def wpRange (P : Program) (K : FuncId → List Value → Option Value) (fn : FuncId) (f : Value) (env : List Value) (ps : Array Tmp) (assign body : Code) (d : Nat) (h : AH) (q : Option Code → AH → Prop) : Prop := match f with
  | .func (.func g) first captured => callable P g = true ∧ Ok P K (.call g (first.toList ++ [.func (.yield h.next) #[] #[]] ++ captured.toList)) (h.alloc (.loop .ready none fn env ps assign body d)) fun _ h3 =>
      thn (endV h3 h.next) fun r => q r.1 r.2
  | _ => False

/-- A walk. 'E': at a place where it stops, 'F': where it leaves. -/
def wpT (P : Program) (K : FuncId → List Value → Option Value) (E : List Nat → List Value → List Item → AH → Prop) (F : Leave → List Nat → List Value → AH → Prop) (fn : FuncId) (ro : Option Nat) :
    Nat → List Nat → List Value → List Item → AH → Prop
  | 0, ds, env, k, h => E ds env k h
  | n + 1, ds, env, k, h =>
    match k with
    | [] => F .fell ds env h
    | .code c :: k =>
      (match c with
      | .skip => wpT P K E F fn ro n ds env k h
      | .label _ => wpT P K E F fn ro n ds env k h
      | .seq a b => wpT P K E F fn ro n ds env (.code a :: .code b :: k) h
      | .cond c t e => Br (aeval P env c) (E ds env (.code t :: k) h) (E ds env (.code e :: k) h)
      | .block id b => wpT P K E F fn ro n ds env (.code b :: .inBlock id :: k) h
      | .loop b => E ds env (.code b :: .inLoop b :: k) h
      | .scope b => wpT P K E F fn ro n ds env (.code b :: .inScope b :: k) h
      | .exit id => (match exitTo id k with
        | some k' => wpT P K E F fn ro n ds env k' h
        | none => if ro.isSome then F (.exit id) ds env h else False)
      | .ret => F .ret ds env h
      | .region _ ops false => wpOps P K (fun j => (ops[j]?).bind (·.dst)) ops.toList env h [] fun env' h' => wpT P K E F fn ro n ds env' k h'
      | .region _ ops true => wpDraw P K ops env h fun env' h' => wpT P K E F fn ro n ds env' k h'
      | .rangeFunc f ps assign body =>
        (match ro with
        | none => alc h (.marks true) fun h1 => wpRange P K fn (aeval P env f) env ps assign body h.next h1 fun p h' => E (h.next :: ds) env ((p.map Item.code).toList ++ k) h'
        | some l => thn (defersOf h l) fun d => wpRange P K fn (aeval P env f) env ps assign body d h fun p h' => E ds env ((p.map Item.code).toList ++ k) h')
      | _ => False)
    | .inBlock _ :: k => wpT P K E F fn ro n ds env k h
    | .inScope _ :: k => wpT P K E F fn ro n ds env k h
    | .inLoop b :: k => E ds env (.code b :: .inLoop b :: k) h
    | .beginRound :: k =>
      (match ro with
      | some l => thn (beginV h l) fun h' => wpT P K E F fn ro n ds env k h'
      | none => False)
    | _ => False

theorem wpRange_sound {fn : FuncId} {f : Value} {env : List Value} {ps : Array Tmp} {assign body : Code} {d : Nat} {h : AH} {q : Option Code → AH → Prop} (hw : wpRange P K fn f env ps assign body d h q) :
    ∃ n g first captured o h3 p h4, f = .func (.func g) first captured ∧ callable P g = true ∧ run P K n (.call g (first.toList ++ [.func (.yield h.next) #[] #[]] ++ captured.toList)) (h.alloc (.loop .ready none fn env ps assign body d)) = some (o, h3) ∧
      endV h3 h.next = some (p, h4) ∧ q p h4 := by
  unfold wpRange at hw
  split at hw
  · rename_i g first captured
    obtain ⟨hc, n, r, h1, ⟨p, h4⟩, h2, h3⟩ := hw
    exact ⟨n, g, first, captured, r.1, r.2, p, h4, rfl, hc, h1, h2, h3⟩
  · cases hw

theorem wpT_sound {E : List Nat → List Value → List Item → AH → Prop} {F : Leave → List Nat → List Value → AH → Prop} {fn : FuncId} {ro : Option Nat} {Q : Out → AH → Prop}
    (hE : ∀ ds env k h, E ds env k h → Ok P K (.todo fn ro ds env k) h Q) (hF : ∀ lv ds env h, F lv ds env h → Q ⟨lv, ds, env, undef⟩ h) :
    ∀ (n : Nat) {ds : List Nat} {env : List Value} {k : List Item} {h : AH}, wpT P K E F fn ro n ds env k h → Ok P K (.todo fn ro ds env k) h Q
  | 0, ds, env, k, h, hw => hE _ _ _ _ hw
  | n + 1, ds, env, k, h, hw => by
    have IH : ∀ {ds : List Nat} {env : List Value} {k : List Item} {h : AH}, wpT P K E F fn ro n ds env k h → Ok P K (.todo fn ro ds env k) h Q := fun x => wpT_sound hE hF n x
    have st : ∀ {k' : List Item}, wpT P K E F fn ro n ds env k' h → (∀ m, run P K (m + 1) (.todo fn ro ds env k) h = run P K m (.todo fn ro ds env k') h) → Ok P K (.todo fn ro ds env k) h Q :=
      fun hw hs => ok_step hs (IH hw)
    unfold wpT at hw
    split at hw
    · exact ⟨1, _, rfl, hF _ _ _ _ hw⟩
    · rename_i c k
      split at hw
      · exact st hw fun _ => rfl
      · exact st hw fun _ => rfl
      · exact st hw fun _ => rfl
      · exact ok_cond (let ⟨b, x, y, z⟩ := hw; ⟨b, x, fun t => hE _ _ _ _ (y t), fun t => hE _ _ _ _ (z t)⟩)
      · exact st hw fun _ => rfl
      · rename_i b
        exact ok_step (t' := .todo fn ro ds env (.code b :: .inLoop b :: k)) (fun _ => rfl) (hE _ _ _ _ hw)
      · exact st hw fun _ => rfl
      · rename_i id
        split at hw
        · rename_i k' hx
          refine st hw fun m => ?_
          show runTodo P (run P K m) _ _ _ _ _ _ = _
          simp only [runTodo, hx]
        · rename_i hx
          split at hw
          · rename_i hro
            refine ⟨1, (⟨.exit id, ds, env, undef⟩, h), ?_, hF _ _ _ _ hw⟩
            show runTodo P (run P K 0) _ _ _ _ _ _ = _
            simp only [runTodo, hx, hro, if_true]
          · cases hw
      · exact ⟨1, _, rfl, hF _ _ _ _ hw⟩
      · exact ok_region (fun e g hh => IH hh) hw
      · exact ok_draw (fun e g hh => IH hh) hw
      · rename_i f ps assign body
        split at hw
        · unfold alc at hw
          obtain ⟨n1, g, first, captured, o, h3, p, h4, hf, hc, hr, he, hw⟩ := wpRange_sound hw
          obtain ⟨n2, r, hr2, hq⟩ := hE _ _ _ _ hw
          refine ⟨max n1 n2 + 1, r, ?_, hq⟩
          show runTodo P (run P K (max n1 n2)) _ _ _ _ _ _ = _
          unfold endV at he
          split at he
          · rename_i hl
            split at he
            · cases he
            · rename_i hb
              simp only [Option.map_eq_some_iff] at he
              obtain ⟨h5, he, h6⟩ := he
              cases h6
              simp only [runTodo, hf, hc, if_true]
              rw [run_mono (Nat.le_max_left n1 n2) _ _ _ hr]
              simp only [hl, hb, if_false, he]
              exact run_mono (Nat.le_max_right n1 n2) _ _ _ hr2
          · cases he
        · rename_i l
          obtain ⟨d, hd, hw⟩ := hw
          obtain ⟨n1, g, first, captured, o, h3, p, h4, hf, hc, hr, he, hw⟩ := wpRange_sound hw
          obtain ⟨n2, r, hr2, hq⟩ := hE _ _ _ _ hw
          refine ⟨max n1 n2 + 1, r, ?_, hq⟩
          show runTodo P (run P K (max n1 n2)) _ _ _ _ _ _ = _
          unfold endV at he
          unfold defersOf at hd
          split at hd
          · rename_i hd0
            cases hd
            split at he
            · rename_i hl
              split at he
              · cases he
              · rename_i hb
                simp only [Option.map_eq_some_iff] at he
                obtain ⟨h5, he, h6⟩ := he
                cases h6
                simp only [runTodo, hd0, hf, hc, if_true]
                rw [run_mono (Nat.le_max_left n1 n2) _ _ _ hr]
                simp only [hl, hb, if_false, he]
                exact run_mono (Nat.le_max_right n1 n2) _ _ _ hr2
            · cases he
          · cases hd
      · cases hw
    · exact st hw fun _ => rfl
    · exact st hw fun _ => rfl
    · rename_i b k
      exact ok_step (t' := .todo fn ro ds env (.code b :: .inLoop b :: k)) (fun _ => rfl) (hE _ _ _ _ hw)
    · rename_i k
      split at hw
      · rename_i l
        obtain ⟨h', h1, h2⟩ := hw
        unfold beginV at h1
        split at h1
        · rename_i hg
          refine ok_step (t' := .todo fn (some l) ds env k) (h' := h') (fun m => ?_) (IH h2)
          show runTodo P (run P K m) _ _ _ _ _ _ = _
          simp only [runTodo, hg, h1]
        · cases h1
      · cases hw
    · cases hw

/-! ### Calls -/
def retV (P : Program) (f : FuncId) (Q : Value → AH → Prop) : Out → AH → Prop := fun o h1 =>
  match o.leave with
  | .exit _ => False
  | _ => thn (closeMarks o.ds h1) fun h2 => thn (aresults P h2 o.env ((P.funcs[f]?).elim [] fun fn => fn.results.toList)) fun vs => Q (oneOf vs) h2
theorem ok_call {f : FuncId} {fn : Func} {body : Code} {args : List Value} {h : AH} {Q : Value → AH → Prop} (hf : P.funcs[f]? = some fn) (hb : fn.body = some body) (hK : K f args = none)
    (hw : Ok P K (.todo f none [] (args ++ List.replicate (fn.ntmps - args.length) undef) [.code body]) h (retV P f Q)) : Ok P K (.call f args) h fun o h' => Q o.v h' := by
  obtain ⟨n, ⟨o, g⟩, h1, h2⟩ := hw
  simp only at h2
  have key : (∀ id, o.leave ≠ .exit id) → (thn (closeMarks o.ds g) fun h2 => thn (aresults P h2 o.env ((P.funcs[f]?).elim [] fun fn => fn.results.toList)) fun vs => Q (oneOf vs) h2) → Ok P K (.call f args) h fun o h' => Q o.v h' := by
    intro hne ⟨h3, hc, vs, hv, hq⟩
    rw [hf] at hv
    simp only [Option.elim_some] at hv
    refine ⟨n + 1, (⟨.fell, [], [], oneOf vs⟩, h3), ?_, hq⟩
    show runCall P K (run P K n) f args h = _
    simp only [runCall, hK, hf, hb]
    rw [h1]
    cases hlv : o.leave with
    | exit id => exact absurd hlv (hne id)
    | fell => simp only [hlv, hc, hv]; rfl
    | ret => simp only [hlv, hc, hv]; rfl
  unfold retV at h2
  split at h2
  · cases h2
  · rename_i hne
    exact key (fun id he => hne id he) h2
/-! ### Places, what is alive there, and where a function leaves -/
def fstRegion : Code → Option Nat
  | .region id _ _ => some id
  | .seq a b => (match fstRegion a with
    | some r => some r
    | none => fstRegion b)
  | .block _ b => fstRegion b
  | .loop b => fstRegion b
  | .scope b => fstRegion b
  | _ => none
def keyOf : List Item → Option Nat
  | .code c :: k => (match fstRegion c with
    | some r => some r
    | none => keyOf k)
  | .inLoop c :: k => (match fstRegion c with
    | some r => some r
    | none => keyOf k)
  | _ :: k => keyOf k
  | [] => none
/-- a place of a function: what is said is 'vs', the values of 'lv' -/
def Pt (P : Program) (K : FuncId → List Value → Option Value) (fn : FuncId) (ro : Option Nat) (Q : Out → AH → Prop) (n : Nat) (lv : List Nat) (k : List Item) (ds : List Nat) (vs : List Value) (h : AH) : Prop :=
  ∀ e : Nat → Value, lv.map e = vs → Ok P K (.todo fn ro ds ((List.range n).map e) k) h Q
def ptE (P : Program) (K : FuncId → List Value → Option Value) (fn : FuncId) (ro : Option Nat) (Q : Out → AH → Prop) (L : List (Option Nat × List Nat)) (ds : List Nat) (env : List Value) (k : List Item) (h : AH) : Prop :=
  Pt P K fn ro Q env.length ((L.lookup (keyOf k)).getD []) k ds (((L.lookup (keyOf k)).getD []).map fun t => env.getD t undef) h
theorem range_env {env : List Value} {n : Nat} (h : env.length = n) : (List.range n).map (fun t => env.getD t undef) = env := by
  refine List.ext_getElem? fun i => ?_
  subst h
  rw [List.getElem?_map]
  rcases Nat.lt_or_ge i env.length with hi | hi
  · rw [List.getElem?_range hi]
    simp [hi]
  · rw [List.getElem?_eq_none hi, List.getElem?_eq_none (by simpa using hi)]
    rfl
theorem ptE_sound {fn : FuncId} {ro : Option Nat} {Q : Out → AH → Prop} {L : List (Option Nat × List Nat)} {ds : List Nat} {env : List Value} {k : List Item} {h : AH} (hp : ptE P K fn ro Q L ds env k h) : Ok P K (.todo fn ro ds env k) h Q := by
  have := hp (fun t => env.getD t undef) rfl
  rwa [range_env rfl] at this
/-- the results, read where the function leaves -/
def resE (P : Program) (h : AH) (env : List Value) : List ResultVar → (List Value → Prop) → Prop
  | [], p => p []
  | .tmp t :: rs, p => resE P h env rs fun l => p (env.getD t undef :: l)
  | .cell a t :: rs, p => match aggOf P t with
    | some true => thn (ldN h (P.cellsOf t) (env.getD a undef)) fun v => resE P h env rs fun l => p (v :: l)
    | some false => thn (ld1 h (env.getD a undef)) fun v => resE P h env rs fun l => p (v :: l)
    | none => False
theorem resE_sound {h : AH} {env : List Value} : ∀ {rs : List ResultVar} {p : List Value → Prop}, resE P h env rs p → ∃ l, aresults P h env rs = some l ∧ p l
  | [], p, hw => ⟨[], rfl, hw⟩
  | .tmp t :: rs, p, hw => by
    obtain ⟨l, h1, h2⟩ := resE_sound (rs := rs) hw
    exact ⟨_, by simp only [aresults, h1]; rfl, h2⟩
  | .cell a t :: rs, p, hw => by
    simp only [resE] at hw
    split at hw
    · rename_i ha
      obtain ⟨v, h1, hw⟩ := hw
      obtain ⟨l, h2, h3⟩ := resE_sound (rs := rs) hw
      refine ⟨v :: l, ?_, h3⟩
      unfold ldN at h1
      split at h1
      · rename_i x he
        have hl : aload P h t x = some v := by unfold aload; rw [ha]; exact h1
        simp only [aresults, he, hl, h2]
      · cases h1
    · rename_i ha
      obtain ⟨v, h1, hw⟩ := hw
      obtain ⟨l, h2, h3⟩ := resE_sound (rs := rs) hw
      refine ⟨v :: l, ?_, h3⟩
      unfold ld1 at h1
      split at h1
      · rename_i x he
        have hl : aload P h t x = some v := by unfold aload; rw [ha]; exact h1
        simp only [aresults, he, hl, h2]
      · cases h1
    · cases hw
def retE (P : Program) (f : FuncId) (Q : Value → AH → Prop) (lv : Leave) (ds : List Nat) (env : List Value) (h : AH) : Prop := match lv with
  | .exit _ => False
  | _ => (match ds with
    | [] => resE P h env ((P.funcs[f]?).elim [] fun fn => fn.results.toList) fun l => Q (oneOf l) h
    | d :: ds => thn (closeMarks (d :: ds) h) fun h2 => resE P h2 env ((P.funcs[f]?).elim [] fun fn => fn.results.toList) fun l => Q (oneOf l) h2)
theorem retE_sound {f : FuncId} {Q : Value → AH → Prop} {lv : Leave} {ds : List Nat} {env : List Value} {h : AH} (hw : retE P f Q lv ds env h) : retV P f Q ⟨lv, ds, env, undef⟩ h := by
  have key : ∀ {h2 : AH} (hc : closeMarks ds h = some h2), (resE P h2 env ((P.funcs[f]?).elim [] fun fn => fn.results.toList) fun l => Q (oneOf l) h2) →
      thn (closeMarks ds h) fun h2 => thn (aresults P h2 env ((P.funcs[f]?).elim [] fun fn => fn.results.toList)) fun vs => Q (oneOf vs) h2 := by
    intro h2 hc hr
    obtain ⟨l, h3, h4⟩ := resE_sound hr
    exact ⟨h2, hc, l, h3, h4⟩
  unfold retE at hw
  unfold retV
  cases lv with
  | exit id => exact hw
  | fell =>
    cases ds with
    | nil => exact key rfl hw
    | cons d ds => obtain ⟨h2, hc, hw⟩ := hw; exact key hc hw
  | ret =>
    cases ds with
    | nil => exact key rfl hw
    | cons d ds => obtain ⟨h2, hc, hw⟩ := hw; exact key hc hw
/-- A block of a function. -/
theorem block_fn {f : FuncId} {Q : Value → AH → Prop} {L : List (Option Nat × List Nat)} (n : Nat) {ds : List Nat} {env : List Value} {k : List Item} {h : AH}
    (hw : wpT P K (ptE P K f none (retV P f Q) L) (retE P f Q) f none n ds env k h) : Ok P K (.todo f none ds env k) h (retV P f Q) :=
  wpT_sound (fun _ _ _ _ h => ptE_sound h) (fun _ _ _ _ h => retE_sound h) n hw

theorem ok_known {f : FuncId} {args : List Value} {v : Value} {h : AH} {Q : Value → AH → Prop} (hK : K f args = some v) (hw : Q v h) : Ok P K (.call f args) h fun o h' => Q o.v h' :=
  ⟨1, (⟨.fell, [], [], v⟩, h), by show runCall _ _ _ _ _ _ = _; simp only [runCall, hK], hw⟩

/-! ### Rounds of a loop over a function -/
def roundOut (l : Nat) (Q : Value → AH → Prop) : Out → AH → Prop := fun o h1 =>
  o.ds = [] ∧ match o.leave with
  | .fell => thn (setLoop h1 l .ready (some none)) fun h2 => Q (.bool true) h2
  | .ret => thn (setLoop h1 l .done (some (some .ret))) fun h2 => Q (.bool false) h2
  | .exit id => thn (setLoop h1 l .done (some (some (.exit id)))) fun h2 => Q (.bool false) h2
theorem ok_round {l : Nat} {args : List Value} {h : AH} {st : LoopState} {p : Option Code} {fn : FuncId} {tmps : List Value} {ps : Array Tmp} {assign body : Code} {d : Nat} {Q : Value → AH → Prop}
    (hg : h.get l = some (.loop st p fn tmps ps assign body d)) (hl : args.length = ps.size)
    (hw : Ok P K (.todo fn (some l) [] ((ps.toList.zip args).foldl (fun t (p, v) => t.set p v) tmps) [.code assign, .beginRound, .code body]) h (roundOut l Q)) : Ok P K (.round l args) h fun o h' => Q o.v h' := by
  obtain ⟨n, r, h1, h2, h3⟩ := hw
  obtain ⟨o, h4⟩ := r
  simp only at h2 h3
  have key : ∀ o' h5, (match o.leave with
          | .fell => (setLoop h4 l .ready (some none)).map fun h2 => ((⟨.fell, [], [], .bool true⟩ : Out), h2)
          | .ret => (setLoop h4 l .done (some (some .ret))).map fun h2 => (⟨.fell, [], [], .bool false⟩, h2)
          | .exit id => (setLoop h4 l .done (some (some (.exit id)))).map fun h2 => (⟨.fell, [], [], .bool false⟩, h2)) = some (o', h5) → Q o'.v h5 → Ok P K (.round l args) h fun o h' => Q o.v h' := by
    intro o' h5 he hq
    refine ⟨n + 1, (o', h5), ?_, hq⟩
    show runRound (run P K n) l args h = _
    simp only [runRound, hg, hl, if_true]
    rw [h1]
    simp only [h2, List.isEmpty_nil, if_true]
    exact he
  split at h3
  · rename_i hlv
    obtain ⟨h5, h6, h7⟩ := h3
    exact key _ _ (by simp only [hlv, h6]; rfl) h7
  · rename_i hlv
    obtain ⟨h5, h6, h7⟩ := h3
    exact key _ _ (by simp only [hlv, h6]; rfl) h7
  · rename_i hlv
    obtain ⟨h5, h6, h7⟩ := h3
    exact key _ _ (by simp only [hlv, h6]; rfl) h7

end Go.Ab
