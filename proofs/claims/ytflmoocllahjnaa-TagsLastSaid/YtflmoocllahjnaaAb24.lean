/- The abstract machine: a walk as a proposition (regions). -/
import Derived.Test.YtflmoocllahjnaaAb23
namespace Go.Ab
variable {P : Program} {K : FuncId → List Value → Option Value}

/-- guards whose value is known -/
abbrev Dec := List (Tmp × Option Bool)
def decV : Option Bool → Value
  | some b => .bool b
  | none => undef
def Dec.drop (d : Dec) (t : Option Tmp) : Dec := match t with
  | some t => d.filter fun x => x.1 != t
  | none => d
def Dec.ok (d : Dec) (env : List Value) : Prop := ∀ t b, (t, b) ∈ d → env[t]? = some (decV b)
theorem Dec.ok_drop {d : Dec} {env : List Value} {t : Option Tmp} {v : Value} (h : d.ok env) : (d.drop t).ok (aput env t v) := by
  intro t' b hm
  cases t with
  | none => exact h t' b hm
  | some t =>
    simp only [Dec.drop, List.mem_filter, bne_iff_ne, ne_eq] at hm
    simp only [aput]
    rw [List.getElem?_set_ne (fun e => hm.2 e.symm)]
    exact h t' b hm.1
theorem Dec.find {d : Dec} {t : Tmp} {b : Option Bool} (h : d.lookup t = some b) : (t, b) ∈ d := by
  induction d with
  | nil => simp at h
  | cons x d ih =>
    obtain ⟨t', b'⟩ := x
    simp only [List.lookup_cons] at h
    by_cases e : t == t'
    · simp only [e] at h; cases h; simp only [beq_iff_eq] at e; subst e; exact List.mem_cons_self
    · simp only [Bool.not_eq_true] at e; simp only [e] at h; exact List.mem_cons_of_mem _ (ih h)

/-- is it wanted? 'p true' if so -/
def wpGuard (dsts : Nat → Option Tmp) (env : List Value) (dec : Dec) (g : Option (Nat × Bool)) (p : Bool → List Value → Dec → Prop) : Prop :=
  match g with
  | none => p true env dec
  | some (j, want) => match dsts j with
    | none => False
    | some d => match dec.lookup d with
      | some (some b) => p (b == want) env dec
      | some none => p false env dec
      | none => Br (env.getD d undef) (p (true == want) (env.set d (.bool true)) ((d, some true) :: dec)) (p (false == want) (env.set d (.bool false)) ((d, some false) :: dec))
theorem set_self {env : List Value} {d : Nat} {v : Value} (h : env[d]? = some v) : env.set d v = env := by
  refine List.ext_getElem? fun i => ?_
  rw [List.getElem?_set]
  by_cases e : d = i
  · subst e
    rw [if_pos rfl, if_pos (List.getElem?_eq_some_iff.1 h).1, h]
  · rw [if_neg e]
theorem wpGuard_sound {all : Array Oper} {env : List Value} {dec : Dec} {o : Oper} {p : Bool → List Value → Dec → Prop} (hd : dec.ok env) (hw : wpGuard (fun j => (all[j]?).bind (·.dst)) env dec o.guard p) :
    ∃ b dec', aWanted all env o = some b ∧ dec'.ok env ∧ p b env dec' := by
  unfold wpGuard at hw
  unfold aWanted
  split at hw
  · rename_i hg; rw [hg]; exact ⟨true, dec, rfl, hd, hw⟩
  · rename_i j want hg
    rw [hg]
    simp only
    split at hw
    · cases hw
    · rename_i d hdst
      replace hdst : (all[j]?).bind (·.dst) = some d := hdst
      rw [hdst]
      simp only [Option.bind_some]
      split at hw
      · rename_i b hb
        rw [hd _ _ (Dec.find hb)]
        exact ⟨_, dec, rfl, hd, hw⟩
      · rename_i hb
        rw [hd _ _ (Dec.find hb)]
        exact ⟨_, dec, rfl, hd, hw⟩
      · obtain ⟨b, hb, ht, hf⟩ := hw
        rw [List.getD_eq_getElem?_getD] at hb
        cases he : env[d]? with
        | none => rw [he] at hb; simp [undef] at hb
        | some v =>
          rw [he] at hb
          simp only [Option.getD_some] at hb
          subst hb
          have hok : Dec.ok ((d, some b) :: dec) env := by
            intro t b' hm
            rcases List.mem_cons.1 hm with h1 | h1
            · cases h1; exact he
            · exact hd t b' h1
          cases b with
          | true => exact ⟨_, (d, some true) :: dec, rfl, hok, by have := ht rfl; rw [set_self he] at this; exact this⟩
          | false => exact ⟨_, (d, some false) :: dec, rfl, hok, by have := hf rfl; rw [set_self he] at this; exact this⟩

/-! ### In the text's order -/
/-- with a new block -/
def alc (h : AH) (b : Blk) (p : AH → Prop) : Prop := p (h.alloc b)
/-- with a block that was reserved -/
def alcAt (h : AH) (r : Nat) (b : Blk) (p : AH → Prop) : Prop := p (h.set r (some b))
def resv (h : AH) (n : Nat) (p : AH → Prop) : Prop := p { h with next := h.next + n }
def wpOp (P : Program) (K : FuncId → List Value → Option Value) (env : List Value) (h : AH) (q : Value → AH → Prop) (op : Op) : Prop :=
  match kindOf op with
  | .light => wpLight P (aeval P env) h (fun v => q v h) op
  | .alloc => wpAlloc P (aeval P env) (fun b f => alc h b fun h' => q (f h.next) h') op
  | .store | .call => wpHeavy P K (aeval P env) h q op
  | .other => False
theorem wpOp_sound {env : List Value} {h : AH} {q : Value → AH → Prop} {op : Op} (hw : wpOp P K env h q op) : ∃ n v h', opStep P (run P K n) env h op = some (v, h') ∧ q v h' := by
  unfold wpOp at hw
  cases hk : kindOf op with
  | light =>
    simp only [hk] at hw
    obtain ⟨_, v, h1, h2⟩ := wpLight_sound hw
    exact ⟨0, v, h, by simp only [opStep, hk, h1]; rfl, h2⟩
  | alloc =>
    simp only [hk] at hw
    obtain ⟨_, b, f, h1, h2⟩ := wpAlloc_sound hw
    exact ⟨0, _, _, by simp only [opStep, hk, h1]; rfl, h2⟩
  | store =>
    simp only [hk] at hw
    obtain ⟨_, n, v, h', h1, h2⟩ := wpHeavy_sound (fun g => rfl) hw
    exact ⟨n, v, h', by simp only [opStep, hk, h1], h2⟩
  | call =>
    simp only [hk] at hw
    obtain ⟨_, n, v, h', h1, h2⟩ := wpHeavy_sound (fun g => rfl) hw
    exact ⟨n, v, h', by simp only [opStep, hk, h1], h2⟩
  | other => simp only [hk] at hw

def dstIn (env : List Value) (d : Option Tmp) : Bool := match d with
  | some d => decide (d < env.length)
  | none => true
theorem dstIn_lt {env : List Value} {dst : Option Tmp} (h : dstIn env dst = true) : ∀ d, dst = some d → d < env.length := by
  intro d hd; subst hd; simpa [dstIn] using h
/-- a choice whose condition is known: what is chosen, and whether that is known -/
def pickOf (dec : Dec) (op : Op) : Option Operand := match op with
  | .pick (.tmp c) a b => (match dec.lookup c with
    | some (some true) => some a
    | some (some false) => some b
    | _ => none)
  | _ => none
def knownB (dec : Dec) (x : Operand) : Option Bool := match x with
  | .const (.bool y) => some y
  | .tmp t => (match dec.lookup t with
    | some (some y) => some y
    | _ => none)
  | _ => none
def Dec.put (dec : Dec) (dst : Option Tmp) (x : Operand) : Dec := match dst, knownB dec x with
  | some d, some y => (d, some y) :: dec.drop (some d)
  | d, _ => dec.drop d
theorem pickOf_sound {dec : Dec} {env : List Value} (hd : dec.ok env) {op : Op} {x : Operand} (h : pickOf dec op = some x) : kindOf op = .light ∧ ∀ hh, alight P (aeval P env) hh op = some (aeval P env x) := by
  unfold pickOf at h
  split at h
  · rename_i c a b
    split at h
    · rename_i hl
      cases h
      refine ⟨rfl, fun hh => ?_⟩
      have := hd _ _ (Dec.find hl)
      simp [alight, aeval, List.getD_eq_getElem?_getD, this, decV]
    · rename_i hl
      cases h
      refine ⟨rfl, fun hh => ?_⟩
      have := hd _ _ (Dec.find hl)
      simp [alight, aeval, List.getD_eq_getElem?_getD, this, decV]
    · cases h
  · cases h
theorem Dec.ok_put {dec : Dec} {env : List Value} {dst : Option Tmp} {x : Operand} (hd : dec.ok env) (hlt : ∀ d, dst = some d → d < env.length) : (dec.put dst x).ok (aput env dst (aeval P env x)) := by
  unfold Dec.put
  split
  · rename_i d y hk
    intro t b hm
    rcases List.mem_cons.1 hm with h1 | h1
    · cases h1
      have hv : aeval P env x = .bool y := by
        unfold knownB at hk
        split at hk
        · cases hk; simp [aeval, plainV]
        · split at hk
          · rename_i hk2; cases hk; have := hd _ _ (Dec.find hk2); simp [aeval, List.getD_eq_getElem?_getD, this, decV]
          · cases hk
        · cases hk
      simp only [aput]
      rw [List.getElem?_set_self (hlt d rfl), hv]; rfl
    · exact Dec.ok_drop hd t b h1
  · exact Dec.ok_drop hd

/-- an operation that is passed over -/
def Dec.skip (dec : Dec) (env : List Value) (dst : Option Tmp) : Dec := match dst with
  | some d => if d < env.length then (d, none) :: dec.drop (some d) else dec.drop (some d)
  | none => dec
theorem Dec.ok_skip {dec : Dec} {env : List Value} {dst : Option Tmp} (hd : dec.ok env) : (dec.skip env dst).ok (aput env dst undef) := by
  unfold Dec.skip
  cases dst with
  | none => exact hd
  | some d =>
    simp only
    split
    · rename_i hlt
      intro t b hm
      rcases List.mem_cons.1 hm with h1 | h1
      · cases h1
        simp only [aput]
        rw [List.getElem?_set_self hlt]; rfl
      · exact Dec.ok_drop hd t b h1
    · exact Dec.ok_drop hd

def wpOps (P : Program) (K : FuncId → List Value → Option Value) (dsts : Nat → Option Tmp) : List Oper → List Value → AH → Dec → (List Value → AH → Prop) → Prop
  | [], env, h, _, q => q env h
  | o :: os, env, h, dec, q => wpGuard dsts env dec o.guard fun b env dec =>
    match b with
    | true => (match pickOf dec o.op with
      | some x => wpOps P K dsts os (aput env o.dst (aeval P env x)) h (if dstIn env o.dst then dec.put o.dst x else dec.drop o.dst) q
      | none => wpOp P K env h (fun v h' => wpOps P K dsts os (aput env o.dst v) h' (dec.drop o.dst) q) o.op)
    | false => wpOps P K dsts os (aput env o.dst undef) h (dec.skip env o.dst) q
theorem wpOps_sound {all : Array Oper} : ∀ {os : List Oper} {env : List Value} {h : AH} {dec : Dec} {q : List Value → AH → Prop}, dec.ok env → wpOps P K (fun j => (all[j]?).bind (·.dst)) os env h dec q →
    ∃ n o h', run P K n (.ops all os env) h = some (o, h') ∧ q o.env h'
  | [], env, h, dec, q, _, hw => ⟨1, _, h, rfl, hw⟩
  | o :: os, env, h, dec, q, hd, hw => by
    simp only [wpOps] at hw
    obtain ⟨b, dec', hwant, hd', hb⟩ := wpGuard_sound hd hw
    cases b with
    | true =>
      simp only at hb
      obtain ⟨n1, v, h1, dec2, hs, hd2, hrest⟩ : ∃ n1 v h1 dec2, opStep P (run P K n1) env h o.op = some (v, h1) ∧ dec2.ok (aput env o.dst v) ∧ wpOps P K (fun j => (all[j]?).bind (·.dst)) os (aput env o.dst v) h1 dec2 q := by
        split at hb
        · rename_i x hx
          obtain ⟨hk, ha⟩ := pickOf_sound (P := P) hd' hx
          refine ⟨0, _, h, _, by simp only [opStep, hk, ha]; rfl, ?_, hb⟩
          split
          · rename_i hin; exact Dec.ok_put hd' (dstIn_lt hin)
          · exact Dec.ok_drop hd'
        · obtain ⟨n1, v, h1, hs, hrest⟩ := wpOp_sound hb
          exact ⟨n1, v, h1, _, hs, Dec.ok_drop hd', hrest⟩
      obtain ⟨n2, out, h', hr, hq⟩ := wpOps_sound hd2 hrest
      refine ⟨max n1 n2 + 1, out, h', ?_, hq⟩
      show runOps P (fun t h => run P K (max n1 n2) t h) all (o :: os) env h = _
      simp only [runOps, hwant]
      rw [show (fun t h => run P K (max n1 n2) t h) = run P K (max n1 n2) from rfl, opStep_le (run_mono (Nat.le_max_left n1 n2)) hs]
      exact run_mono (Nat.le_max_right n1 n2) _ _ _ hr
    | false =>
      simp only at hb
      obtain ⟨n2, out, h', hr, hq⟩ := wpOps_sound (Dec.ok_skip hd') hb
      refine ⟨n2 + 1, out, h', ?_, hq⟩
      show runOps P (fun t h => run P K n2 t h) all (o :: os) env h = _
      simp only [runOps, hwant]
      exact hr

/-! ### In an order that is drawn -/
def wpLB (P : Program) (q : Value → Prop) (argTypes : Array TypeId) : Builtin → List Value → Prop
  | .len, [x] => match (argTypes[0]?).bind P.underlying with
    | some .string => thn (lenT x) q
    | some (.slice _) => thn (lenS x) q
    | some (.array n _) => q (.int .i64 n)
    | some (.pointer e) => (match P.underlying e with
      | some (.array n _) => q (.int .i64 n)
      | _ => False)
    | _ => False
  | .min, [x, y] => thn (minV x y) q
  | .max, [x, y] => thn (maxV x y) q
  | _, _ => False
theorem wpLB_sound {h : AH} {q : Value → Prop} {at_ : Array TypeId} {b : Builtin} {args : List Value} (hw : wpLB P q at_ b args) : litBuiltin b = true ∧ ∃ v, (abuiltin P h b at_ args).map (·.1) = some v ∧ q v := by
  have key : wpBuiltin P h (fun v _ => q v) at_ b args → ∃ v, (abuiltin P h b at_ args).map (·.1) = some v ∧ q v := fun hb => by
    obtain ⟨v, h', h1, h2⟩ := wpBuiltin_sound hb
    exact ⟨v, by rw [h1]; rfl, h2⟩
  unfold wpLB at hw
  split at hw
  · exact ⟨rfl, key (by simp only [wpBuiltin]; exact hw)⟩
  · exact ⟨rfl, key (by simp only [wpBuiltin]; exact hw)⟩
  · exact ⟨rfl, key (by simp only [wpBuiltin]; exact hw)⟩
  · cases hw
def wpLV (P : Program) (ev : Operand → Value) (h : AH) (q : Value → Prop) : Op → Prop
  | .call c => match c.callee with
    | .builtin b => wpLB P q c.argTypes b (c.args.toList.map ev)
    | _ => False
  | op => wpLight P ev h q op
theorem wpLV_sound {ev : Operand → Value} {h : AH} {q : Value → Prop} {op : Op} (hw : wpLV P ev h q op) : isLight op = true ∧ ∃ v, lightVal P ev h op = some v ∧ q v := by
  unfold wpLV at hw
  split at hw
  · split at hw
    · rename_i hc
      obtain ⟨hl, v, h1, h2⟩ := wpLB_sound (h := h) hw
      exact ⟨by simp [isLight, hc, hl], v, by simp only [lightVal, hc, hl, if_true]; exact h1, h2⟩
    · cases hw
  · rename_i hne
    obtain ⟨hk, v, h1, h2⟩ := wpLight_sound hw
    refine ⟨?_, v, ?_, h2⟩
    · cases op <;> first | (simp [isLight, hk]; done) | (simp [kindOf] at hk)
    · cases op <;> first | exact h1 | (simp [kindOf] at hk)

structure DR where
  env : List Value
  h : AH
  v : Value
  ran : Bool
def wpDOp (P : Program) (K : FuncId → List Value → Option Value) (r : Nat) (env : List Value) (h : AH) (q : Value → AH → Prop) (op : Op) : Prop :=
  match isLight op with
  | true => wpLV P (aeval P env) h (fun v => q v h) op
  | false => match kindOf op with
    | .alloc => wpAlloc P (aeval P env) (fun b f => alcAt h r b fun h' => q (f r) h') op
    | _ => wpHeavy P K (aeval P env) h q op
def wpDrawT (P : Program) (K : FuncId → List Value → Option Value) (dsts : Nat → Option Tmp) : Nat → List Oper → List Value → AH → Dec → List DR → (List DR → List Value → AH → Prop) → Prop
  | _, [], env, h, _, rs, q => q rs env h
  | r, o :: os, env, h, dec, rs, q => wpGuard dsts env dec o.guard fun b env dec =>
    match b with
    | true => (match pickOf dec o.op with
      | some x => wpDrawT P K dsts (r + 1) os (aput env o.dst (aeval P env x)) h (if dstIn env o.dst then dec.put o.dst x else dec.drop o.dst) (rs ++ [⟨env, h, aeval P env x, true⟩]) q
      | none => wpDOp P K r env h (fun v h' => wpDrawT P K dsts (r + 1) os (aput env o.dst v) h' (dec.drop o.dst) (rs ++ [⟨env, h, v, true⟩]) q) o.op)
    | false => wpDrawT P K dsts (r + 1) os (aput env o.dst undef) h (dec.skip env o.dst) (rs ++ [⟨env, h, undef, false⟩]) q
def wpFl (P : Program) (all : List Oper) (rs : List DR) (hEnd : AH) : List (Nat × Nat) → Prop → Prop
  | [], p => p
  | (i, s) :: fs, p => match all[i]? with
    | some o => (match rs[i]? with
      | some r => (match r.ran with
        | true => wpLV P (aeval P r.env) (match rs[s]? with | some q => q.h | none => hEnd) (fun v => veq v r.v = true) o.op ∧ wpFl P all rs hEnd fs p
        | false => wpFl P all rs hEnd fs p)
      | none => False)
    | none => False
def wpDraw (P : Program) (K : FuncId → List Value → Option Value) (ops : Array Oper) (env : List Value) (h : AH) (q : List Value → AH → Prop) : Prop :=
  if drawOk ops.toList && (P.follows .mixedOrders || !Region.departs ops) then
    resv h ops.size fun h1 => wpDrawT P K (fun j => (ops[j]?).bind (·.dst)) h.next ops.toList env h1 [] [] fun rs env' h' => wpFl P ops.toList rs h' (floats ops.toList) (q env' h')
  else False

theorem wpDOp_sound {all : List Oper} {r0 i : Nat} {env : List Value} {h : AH} {q : Value → AH → Prop} {o : Oper} (hwant : aWanted ⟨all⟩ env o = some true) (hw : wpDOp P K (r0 + i) env h q o.op) :
    ∃ n v h', drawStep P (run P K n) all r0 i env h o = some (v, h') ∧ q v h' := by
  unfold wpDOp at hw
  unfold drawStep
  simp only [hwant]
  cases hl : isLight o.op with
  | true =>
    simp only [hl] at hw
    obtain ⟨_, v, h1, h2⟩ := wpLV_sound hw
    exact ⟨0, v, h, by simp [h1], h2⟩
  | false =>
    simp only [hl] at hw
    split at hw
    · rename_i hk
      obtain ⟨_, b, f, h1, h2⟩ := wpAlloc_sound hw
      exact ⟨0, _, _, by simp [hk, h1], h2⟩
    · obtain ⟨hk, n, v, h', h1, h2⟩ := wpHeavy_sound (fun g => rfl) hw
      refine ⟨n, v, h', ?_, h2⟩
      have : (kindOf o.op == Kind.alloc) = false := by rcases hk with h | h <;> rw [h] <;> rfl
      simp [this, h1]
def DRok (all : List Oper) (rs : List DR) : Prop := ∀ (i : Nat) (o : Oper) (r : DR), all[i]? = some o → rs[i]? = some r → aWanted ⟨all⟩ r.env o = some r.ran
theorem wpDrawT_sound {all : List Oper} {r0 : Nat} : ∀ {os : List Oper} {i : Nat} {env : List Value} {h : AH} {dec : Dec} {rs : List DR} {q : List DR → List Value → AH → Prop}, dec.ok env → rs.length = i → (∀ j, all[i + j]? = os[j]?) → DRok all rs →
    wpDrawT P K (fun j => ((⟨all⟩ : Array Oper)[j]?).bind (·.dst)) (r0 + i) os env h dec rs q →
    ∃ n rs2 e h', drawText P (run P K n) all r0 i os env h = some (rs2.map fun r => ⟨r.env, r.h, r.v⟩, e, h') ∧ DRok all (rs ++ rs2) ∧ q (rs ++ rs2) e h'
  | [], i, env, h, dec, rs, q, _, _, _, hok, hw => ⟨0, [], env, h, rfl, by simpa using hok, by simpa [wpDrawT] using hw⟩
  | o :: os, i, env, h, dec, rs, q, hd, hlen, hall, hok, hw => by
    simp only [wpDrawT] at hw
    obtain ⟨b, dec', hwant, hd', hb⟩ := wpGuard_sound hd hw
    have ho : all[i]? = some o := by have := hall 0; simpa using this
    have hok' : ∀ (h2 : AH) (v : Value), DRok all (rs ++ [⟨env, h2, v, b⟩]) := by
      intro h2 v j o' r ho' hr
      rcases Nat.lt_trichotomy j rs.length with h1 | h1 | h1
      · rw [List.getElem?_append_left h1] at hr
        exact hok j o' r ho' hr
      · subst h1
        rw [List.getElem?_append_right (Nat.le_refl _), Nat.sub_self] at hr
        simp at hr
        subst hr
        rw [hlen] at ho'
        rw [ho] at ho'; cases ho'
        exact hwant
      · rw [List.getElem?_append_right (by omega)] at hr
        rw [List.getElem?_eq_none (by simp; omega)] at hr
        cases hr
    have hall' : ∀ j, all[i + 1 + j]? = os[j]? := fun j => by
      have := hall (j + 1)
      rw [show i + 1 + j = i + (j + 1) by omega, this]; simp
    cases b with
    | true =>
      simp only at hb
      obtain ⟨n1, v, h1, dec2, hs, hd2, hrest⟩ : ∃ n1 v h1 dec2, drawStep P (run P K n1) all r0 i env h o = some (v, h1) ∧ dec2.ok (aput env o.dst v) ∧
          wpDrawT P K (fun j => ((⟨all⟩ : Array Oper)[j]?).bind (·.dst)) (r0 + i + 1) os (aput env o.dst v) h1 dec2 (rs ++ [⟨env, h, v, true⟩]) q := by
        split at hb
        · rename_i x hx
          obtain ⟨hk, ha⟩ := pickOf_sound (P := P) hd' hx
          have hl : isLight o.op = true := by
            cases hop : o.op <;> rw [hop] at hk <;> first | (simp [isLight, kindOf]; done) | (simp [kindOf] at hk)
          have hlv : lightVal P (aeval P env) h o.op = some (aeval P env x) := by
            have := ha h
            cases hop : o.op <;> rw [hop] at hk this <;> first | exact this | (simp [kindOf] at hk)
          refine ⟨0, _, h, _, by simp [drawStep, hwant, hl, hlv], ?_, hb⟩
          split
          · rename_i hin; exact Dec.ok_put hd' (dstIn_lt hin)
          · exact Dec.ok_drop hd'
        · obtain ⟨n1, v, h1, hs, hrest⟩ := wpDOp_sound hwant hb
          exact ⟨n1, v, h1, _, hs, Dec.ok_drop hd', hrest⟩
      obtain ⟨n2, rs2, e, h', hr, hok2, hq⟩ := wpDrawT_sound (i := i + 1) hd2 (by simp [hlen]) hall' (hok' h v) hrest
      refine ⟨max n1 n2, ⟨env, h, v, true⟩ :: rs2, e, h', ?_, by simpa using hok2, by simpa using hq⟩
      simp only [drawText, drawStep_le (run_mono (Nat.le_max_left n1 n2)) hs, drawText_le (run_mono (Nat.le_max_right n1 n2)) _ hr]
      rfl
    | false =>
      simp only at hb
      obtain ⟨n2, rs2, e, h', hr, hok2, hq⟩ := wpDrawT_sound (i := i + 1) (Dec.ok_skip hd') (by simp [hlen]) hall' (hok' h undef) hb
      refine ⟨n2, ⟨env, h, undef, false⟩ :: rs2, e, h', ?_, by simpa using hok2, by simpa using hq⟩
      have hs : drawStep P (run P K n2) all r0 i env h o = some (undef, h) := by simp only [drawStep, hwant]
      simp only [drawText, hs, hr]
      rfl
theorem wpFl_sound {all : List Oper} {rs : List DR} {hEnd : AH} (hok : DRok all rs) {p : Prop} : ∀ {fs : List (Nat × Nat)}, wpFl P all rs hEnd fs p → (fs.all (floatOk P all (rs.map fun r => ⟨r.env, r.h, r.v⟩) hEnd) = true) ∧ p
  | [], hw => ⟨rfl, hw⟩
  | (i, s) :: fs, hw => by
    simp only [wpFl] at hw
    split at hw
    · rename_i o ho
      split at hw
      · rename_i r hr
        have hwant := hok i o r ho hr
        have hmap : (rs.map fun r => (⟨r.env, r.h, r.v⟩ : Rec))[i]? = some ⟨r.env, r.h, r.v⟩ := by simp [hr]
        have hh : (match (rs.map fun r => (⟨r.env, r.h, r.v⟩ : Rec))[s]? with | some q => q.h | none => hEnd) = (match rs[s]? with | some q => q.h | none => hEnd) := by
          cases hs : rs[s]? <;> simp [hs]
        split at hw
        · rename_i hran
          obtain ⟨h1, h2⟩ := hw
          obtain ⟨h3, h4⟩ := wpFl_sound hok h2
          refine ⟨?_, h4⟩
          rw [List.all_cons, h3, Bool.and_true]
          obtain ⟨_, v, hv, hveq⟩ := wpLV_sound h1
          rw [← hh] at hv
          simp only [floatOk, ho, hmap, hwant, hran]
          refine Eq.trans ?_ hveq
          erw [hv]
        · rename_i hran
          obtain ⟨h3, h4⟩ := wpFl_sound hok hw
          refine ⟨?_, h4⟩
          rw [List.all_cons, h3, Bool.and_true]
          simp only [floatOk, ho, hmap, hwant, hran]
      · cases hw
    · cases hw
theorem wpDraw_sound {ops : Array Oper} {env : List Value} {h : AH} {q : List Value → AH → Prop} (hw : wpDraw P K ops env h q) : ∃ n e h', drawRun P (run P K n) ops env h = some (e, h') ∧ q e h' := by
  unfold wpDraw at hw
  split at hw
  · rename_i hc
    obtain ⟨n, rs2, e, h', hr, hok, hq⟩ := wpDrawT_sound (all := ops.toList) (r0 := h.next) (i := 0) (fun t b hm => by cases hm) rfl (fun j => by simp) (fun i o r _ hr => by simp at hr) hw
    simp only [List.nil_append] at hok hq
    obtain ⟨hf, hq⟩ := wpFl_sound hok hq
    refine ⟨n, e, h', ?_, hq⟩
    unfold drawRun
    rw [if_pos hc, hr]
    simp only
    rw [if_pos hf]
  · cases hw

end Go.Ab
