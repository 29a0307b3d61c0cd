/- The abstract machine: regions that draw their order (all of it). -/
import Derived.Test.YtflmoocllahjnaaAb17
namespace Go.Ab
open Go.RowKit
variable {P : Program} {B : Nat} {K : FuncId → List Value → Option Value}

/-- A region, and its run in the text's order. -/
structure Dr (P : Program) (R : Run) (all : List Oper) (r0 : Nat) (E : Nat → List Value) (H : Nat → AH) (V : Nat → Value) : Prop where
  step : ∀ (j : Nat) o, all[j]? = some o → drawStep P R all r0 j (E j) (H j) o = some (V j, H (j + 1))
  env : ∀ (j : Nat) o, all[j]? = some o → E (j + 1) = aput (E j) o.dst (V j)
  dir : ∀ (k : Nat) o, all[k]? = some o → ∀ j ∈ directs o, j < k
  kind : ∀ (k : Nat) o, all[k]? = some o → kindOf o.op ≠ .other
  dsts : ∀ i j : Nat, ∀ t, (all[i]?).bind (·.dst) = some t → (all[j]?).bind (·.dst) = some t → i = j
  tmps : ∀ i j : Nat, ∀ o p d, all[i]? = some o → all[j]? = some p → i ≠ j → p.dst = some d → d ∈ opTmps all o → (j < i → ahead (predsOf all []) j i = true) ∧ (i < j → ahead (predsOf all []) i j = true)
  heavy : ∀ i j : Nat, ∀ o p, all[i]? = some o → all[j]? = some p → isHeavy o.op = true → isHeavy p.op = true → j < i → ahead (predsOf all []) j i = true
  flt : ∀ i s : Nat, ∀ o, all[i]? = some o → isLight o.op = true → s ≤ all.length → (s = all.length ∨ ∃ p, all[s]? = some p ∧ isHeavy p.op = true) →
    (∀ j p, all[j]? = some p → isHeavy p.op = true → (j < s → ahead (predsOf all []) i j = false) ∧ (s ≤ j → ahead (predsOf all []) j i = false)) →
    ¬ (i < s ∧ ∀ j p, i < j → j < s → all[j]? = some p → isHeavy p.op = false) →
    aWanted ⟨all⟩ (E i) o = some true → lightVal P (aeval P (E i)) (H s) o.op = some (V i)

/-- Where the model stands: 'D' is done; the abstract heap is the text's one ahead of 's'. -/
structure St (P : Program) (B : Nat) (all : List Oper) (r0 : Nat) (E : Nat → List Value) (H : Nat → AH) (V : Nat → Value) (ρ0 : Rho) (h : AH) (w0 : World) (D : List Nat) (s : Nat) (ρ : Rho) (w : World) (tmps : List Value) : Prop where
  evo : EvoN P B r0 ρ0 h w0 ρ (H s) w
  dlt : ∀ i ∈ D, i < all.length
  closed : ∀ i ∈ D, ∀ o, all[i]? = some o → ∀ j ∈ directs o, j ∈ D
  s1 : ∀ (j : Nat) o, j < s → all[j]? = some o → isHeavy o.op = true → j ∈ D
  s3 : ∀ (j : Nat) o, all[j]? = some o → isHeavy o.op = true → j ∈ D → j < s
  sle : s ≤ all.length
  env : LRel ρ (EnvD all V (E 0) D) tmps
  nx : r0 + all.length ≤ (H s).next
  pend : ∀ (i : Nat) o b f, s ≤ i → i ∈ D → all[i]? = some o → aWanted ⟨all⟩ (E i) o = some true → aalloc P (aeval P (E i)) o.op = some (b, f) → kindOf o.op = .alloc →
    ∃ n o', ρ (r0 + i) = some (n, 0) ∧ w.heap[n]? = some o' ∧ BRel P ρ 0 b o'
  resv : ∀ i n t, i < all.length → ρ (r0 + i) = some (n, t) → w0.heap.size ≤ n ∧ n < w.heap.size
  lone : ∀ i n t, s ≤ i → i < all.length → ρ (r0 + i) = some (n, t) → ∀ j s', h.base ≤ j → ((H s).get j).isSome → ρ j ≠ some (n, s')
  injR : ∀ i i' n t t', i < all.length → i' < all.length → ρ (r0 + i) = some (n, t) → ρ (r0 + i') = some (n, t') → i = i'
  unm : ∀ i, i < all.length → i ∉ D → ρ (r0 + i) = none
  unA : ∀ (i : Nat) o, all[i]? = some o → ¬ (kindOf o.op = .alloc ∧ aWanted ⟨all⟩ (E i) o = some true) → ρ (r0 + i) = none
  rev : ∀ (i : Nat) o b f, i < s → i ∉ D → all[i]? = some o → aWanted ⟨all⟩ (E i) o = some true → aalloc P (aeval P (E i)) o.op = some (b, f) → kindOf o.op = .alloc → (H s).get (r0 + i) = some b
  non : ∀ j, s ≤ j → j < all.length → (H s).get (r0 + j) = none
  gr : ∀ m, m ≤ s → (∀ (j : Nat) p, m ≤ j → j < s → all[j]? = some p → isHeavy p.op = false) → Grows (H m) (H s)
/-- 's' is the first store or call that is not done. -/
def First (all : List Oper) (D : List Nat) (s : Nat) : Prop := s = all.length ∨ ∃ o, all[s]? = some o ∧ isHeavy o.op = true ∧ s ∉ D

variable {R : Run} {all : List Oper} {r0 : Nat} {E : Nat → List Value} {H : Nat → AH} {V : Nat → Value} {ρ0 ρ : Rho} {h : AH} {w0 w : World} {D : List Nat} {s : Nat} {tmps : List Value}

theorem kind_light {op : Op} (h : isLight op = true) : kindOf op = .light ∨ kindOf op = .call := by
  cases op <;> simp [isLight, kindOf] at h ⊢
theorem not_both {op : Op} (h : isLight op = true) : isHeavy op = false ∧ kindOf op ≠ .alloc := by
  rcases kind_light h with hk | hk <;> simp [isHeavy, h, hk]

/-- what the text's order says of one operation -/
theorem Dr.cases (d : Dr P R all r0 E H V) {i : Nat} {o : Oper} (ho : all[i]? = some o) :
    (aWanted ⟨all⟩ (E i) o = some false ∧ V i = undef ∧ H (i + 1) = H i) ∨
    (aWanted ⟨all⟩ (E i) o = some true ∧ isLight o.op = true ∧ lightVal P (aeval P (E i)) (H i) o.op = some (V i) ∧ H (i + 1) = H i) ∨
    (aWanted ⟨all⟩ (E i) o = some true ∧ kindOf o.op = .alloc ∧ ∃ b f, aalloc P (aeval P (E i)) o.op = some (b, f) ∧ V i = f (r0 + i) ∧ H (i + 1) = (H i).set (r0 + i) (some b)) ∨
    (aWanted ⟨all⟩ (E i) o = some true ∧ isHeavy o.op = true ∧ heavyStep P R (aeval P (E i)) (H i) o.op = some (V i, H (i + 1))) := by
  have hs := d.step i o ho
  have hk := d.kind i o ho
  unfold drawStep at hs
  split at hs
  · cases hs
  · rename_i hw
    simp only [Option.some.injEq, Prod.mk.injEq] at hs
    exact .inl ⟨hw, hs.1.symm, hs.2.symm⟩
  · rename_i hw
    split at hs
    · rename_i hl
      simp only [Option.map_eq_some_iff] at hs
      obtain ⟨v, hv, he⟩ := hs
      simp only [Prod.mk.injEq] at he
      exact .inr (.inl ⟨hw, hl, by rw [← he.1]; exact hv, he.2.symm⟩)
    · rename_i hl
      split at hs
      · rename_i hal
        simp only [Option.map_eq_some_iff] at hs
        obtain ⟨⟨b, f⟩, hv, he⟩ := hs
        simp only [Prod.mk.injEq] at he
        exact .inr (.inr (.inl ⟨hw, by simpa using hal, b, f, hv, he.1.symm, he.2.symm⟩))
      · rename_i hal
        refine .inr (.inr (.inr ⟨hw, ?_, hs⟩))
        unfold isHeavy
        simp only [hl, Bool.not_false, Bool.and_true]
        have hal' : kindOf o.op ≠ .alloc := by simpa using hal
        have hll : kindOf o.op ≠ .light := by
          intro hh
          apply hl
          cases hop : o.op <;> rw [hop] at hh <;> simp [kindOf] at hh <;> simp [isLight, kindOf]
        cases hkk : kindOf o.op with
        | light => exact absurd hkk hll
        | alloc => exact absurd hkk hal'
        | store => rfl
        | call => rfl
        | other => exact absurd hkk hk

/-- The text's frame ahead of an operation. -/
theorem Dr.envE (d : Dr P R all r0 E H V) : ∀ i, i ≤ all.length → E i = EnvD all V (E 0) (List.range i)
  | 0, _ => rfl
  | i + 1, hi => by
    have ho : all[i]? = some all[i] := List.getElem?_eq_getElem (by omega)
    rw [d.env i _ ho, d.envE i (by omega), List.range_succ, EnvD_snoc, ho]
    rfl

theorem St.ahead_in (d : Dr P R all r0 E H V) (st : St P B all r0 E H V ρ0 h w0 D s ρ w tmps) {i : Nat} {o : Oper} (ho : all[i]? = some o) (hdir : ∀ j ∈ directs o, j ∈ D) {j : Nat} (hj : ahead (predsOf all []) j i = true) : j ∈ D :=
  preds_in d.dir st.closed i o ho hdir j hj

/-- What an operation that is next looks at is what it looks at by the text. -/
theorem St.looks (d : Dr P R all r0 E H V) (st : St P B all r0 E H V ρ0 h w0 D s ρ w tmps) {i : Nat} {o : Oper} (ho : all[i]? = some o) (hD : i ∉ D) (hdir : ∀ j ∈ directs o, j ∈ D) {t : Nat} (ht : t ∈ opTmps all o) :
    (EnvD all V (E 0) D)[t]? = (E i)[t]? := by
  have hi : i < all.length := (List.getElem?_eq_some_iff.1 ho).1
  rw [d.envE i (by omega)]
  refine EnvD_same (fun a b ha hb => d.dsts a b t ha hb) fun j hj => ?_
  rw [List.mem_range]
  cases hp : all[j]? with
  | none => rw [hp] at hj; cases hj
  | some p =>
    rw [hp] at hj
    simp only [Option.bind_some] at hj
    by_cases hji : j = i
    · subst hji; simp [hD]
    · obtain ⟨h1, h2⟩ := d.tmps i j o p t ho hp (Ne.symm hji) hj ht
      constructor
      · intro hjD
        rcases Nat.lt_or_ge j i with hlt | hge
        · exact hlt
        · exfalso
          have h3 := h2 (by omega)
          exact hD (preds_in d.dir st.closed j p hp (st.closed j hjD p hp) i h3)
      · intro hlt
        exact st.ahead_in d ho hdir (h1 hlt)
theorem St.ev (d : Dr P R all r0 E H V) (st : St P B all r0 E H V ρ0 h w0 D s ρ w tmps) {i : Nat} {o : Oper} (ho : all[i]? = some o) (hD : i ∉ D) (hdir : ∀ j ∈ directs o, j ∈ D) :
    ∀ x ∈ o.op.operands.toList, aeval P (EnvD all V (E 0) D) x = aeval P (E i) x := by
  intro x hx
  cases x with
  | tmp t =>
    have := st.looks d ho hD hdir (t := t) (by unfold opTmps; exact List.mem_append_left _ (List.mem_filterMap.2 ⟨.tmp t, hx, rfl⟩))
    simp only [aeval, List.getD_eq_getElem?_getD, this]
  | _ => rfl
theorem St.wanted (d : Dr P R all r0 E H V) (st : St P B all r0 E H V ρ0 h w0 D s ρ w tmps) {i : Nat} {o : Oper} (ho : all[i]? = some o) (hD : i ∉ D) (hdir : ∀ j ∈ directs o, j ∈ D) :
    aWanted ⟨all⟩ (EnvD all V (E 0) D) o = aWanted ⟨all⟩ (E i) o := by
  unfold aWanted
  cases hg : o.guard with
  | none => rfl
  | some x =>
    obtain ⟨j, want⟩ := x
    simp only
    cases hj : ((⟨all⟩ : Array Oper)[j]?).bind (·.dst) with
    | none => rfl
    | some t =>
      have hj' : (all[j]?).bind (·.dst) = some t := by simpa using hj
      have := st.looks d ho hD hdir (t := t) (by unfold opTmps; rw [hg]; exact List.mem_append_right _ (by simp only [hj', Option.toList_some]; exact List.mem_singleton.2 rfl))
      simp only [Option.bind_some, this]

theorem St.sameLight (d : Dr P R all r0 E H V) (st : St P B all r0 E H V ρ0 h w0 D s ρ w tmps) (hf : First all D s) {i : Nat} {o : Oper} (ho : all[i]? = some o) (hD : i ∉ D) (hdir : ∀ j ∈ directs o, j ∈ D) (hl : isLight o.op = true) (hw : aWanted ⟨all⟩ (E i) o = some true) :
    lightVal P (aeval P (E i)) (H s) o.op = some (V i) := by
  rcases Classical.em (i < s ∧ ∀ j p, i < j → j < s → all[j]? = some p → isHeavy p.op = false) with ⟨h1, h2⟩ | hno
  · rcases d.cases ho with ⟨hw', _⟩ | ⟨_, _, hv, _⟩ | ⟨_, hk, _⟩ | ⟨_, hk, _⟩
    · rw [hw'] at hw; cases hw
    · refine light_grow (st.gr i (by omega) fun j p hj1 hj2 hp => ?_) hv
      by_cases e : j = i
      · subst e; rw [ho] at hp; cases hp; exact (not_both hl).1
      · exact h2 j p (by omega) hj2 hp
    · exact absurd hk (not_both hl).2
    · rw [(not_both hl).1] at hk; cases hk
  · refine d.flt i s o ho hl st.sle (hf.imp id fun ⟨p, hp, hh, _⟩ => ⟨p, hp, hh⟩) ?_ hno hw
    intro j p hp hh
    constructor
    · intro hlt
      cases ha : ahead (predsOf all []) i j with
      | false => rfl
      | true => exact absurd (preds_in d.dir st.closed j p hp (st.closed j (st.s1 j p hlt hp hh) p hp) i ha) hD
    · intro hge
      cases ha : ahead (predsOf all []) j i with
      | false => rfl
      | true =>
        have hjD := st.ahead_in d ho hdir ha
        have := st.s3 j p hp hh hjD
        omega

end Go.Ab
