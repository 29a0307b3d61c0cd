/- The abstract machine: more fuel does not count. -/
import Derived.Test.YtflmoocllahjnaaAb20
namespace Go.Ab
variable {P : Program} {K : FuncId → List Value → Option Value}

def Run.le (R R' : Run) : Prop := ∀ t h r, R t h = some r → R' t h = some r

theorem heavyStep_le {R R' : Run} (hl : R.le R') {ev : Operand → Value} {h : AH} {op : Op} {r : Value × AH} (hr : heavyStep P R ev h op = some r) : heavyStep P R' ev h op = some r := by
  unfold heavyStep at hr ⊢
  split
  · exact hr
  · simp only at hr ⊢
    split
    · rename_i he; simp only [he] at hr; exact hr
    · rename_i he
      simp only [he] at hr
      split
      · rename_i hf
        simp only [hf] at hr
        split
        · rename_i hc
          rw [if_pos hc] at hr
          simp only [Option.map_eq_some_iff] at hr ⊢
          obtain ⟨x, hx, rfl⟩ := hr
          exact ⟨x, hl _ _ _ hx, rfl⟩
        · rename_i hc; rw [if_neg hc] at hr; exact hr
      · rename_i hf
        simp only [hf] at hr
        simp only [Option.map_eq_some_iff] at hr ⊢
        obtain ⟨x, hx, rfl⟩ := hr
        exact ⟨x, hl _ _ _ hx, rfl⟩
      · rename_i h1 h2
        split at hr
        · rename_i hf; exact absurd hf (h1 _ _ _)
        · rename_i hf; exact absurd hf (h2 _ _ _)
        · cases hr
    · rename_i he; simp only [he] at hr; exact hr
  · rename_i h1 h2
    split at hr
    · exact absurd rfl (h1 _ _ _)
    · exact absurd rfl (h2 _)
    · cases hr
theorem opStep_le {R R' : Run} (hl : R.le R') {env : List Value} {h : AH} {op : Op} {r : Value × AH} (hr : opStep P R env h op = some r) : opStep P R' env h op = some r := by
  unfold opStep at hr ⊢
  cases hk : kindOf op <;> simp only [hk] at hr ⊢
  · exact hr
  · exact hr
  · exact heavyStep_le hl hr
  · exact heavyStep_le hl hr
  · exact hr
theorem drawStep_le {R R' : Run} (hl : R.le R') {all : List Oper} {r0 i : Nat} {env : List Value} {h : AH} {o : Oper} {r : Value × AH} (hr : drawStep P R all r0 i env h o = some r) : drawStep P R' all r0 i env h o = some r := by
  unfold drawStep at hr ⊢
  cases hw : aWanted ⟨all⟩ env o with
  | none => rw [hw] at hr; exact hr
  | some b =>
    rw [hw] at hr
    cases b with
    | false => exact hr
    | true =>
      simp only at hr ⊢
      split
      · rename_i hc; rw [if_pos hc] at hr; exact hr
      · rename_i hc
        rw [if_neg hc] at hr
        split
        · rename_i hc2; rw [if_pos hc2] at hr; exact hr
        · rename_i hc2; rw [if_neg hc2] at hr; exact heavyStep_le hl hr
theorem drawText_le {R R' : Run} (hl : R.le R') {all : List Oper} {r0 : Nat} : ∀ (os : List Oper) {i : Nat} {env : List Value} {h : AH} {r : List Rec × List Value × AH}, drawText P R all r0 i os env h = some r → drawText P R' all r0 i os env h = some r
  | [], _, _, _, _, hr => hr
  | o :: os, i, env, h, r, hr => by
    simp only [drawText] at hr ⊢
    split at hr
    · rename_i v h' hs
      rw [drawStep_le hl hs]
      simp only
      split at hr
      · rename_i rs e ht
        rw [drawText_le hl os ht]
        exact hr
      · cases hr
    · cases hr
theorem drawRun_le {R R' : Run} (hl : R.le R') {ops : Array Oper} {env : List Value} {h : AH} {r : List Value × AH} (hr : drawRun P R ops env h = some r) : drawRun P R' ops env h = some r := by
  unfold drawRun at hr ⊢
  split
  · rename_i hc
    rw [if_pos hc] at hr
    split at hr
    · rename_i ht
      rw [drawText_le hl _ ht]
      exact hr
    · cases hr
  · rename_i hc; rw [if_neg hc] at hr; exact hr

theorem runOps_le {R R' : Run} (hl : R.le R') {all : Array Oper} {rest : List Oper} {env : List Value} {h : AH} {r : Out × AH} (hr : runOps P R all rest env h = some r) : runOps P R' all rest env h = some r := by
  unfold runOps at hr ⊢
  cases rest with
  | nil => exact hr
  | cons o rest =>
    simp only at hr ⊢
    cases hw : aWanted all env o with
    | none => rw [hw] at hr; exact hr
    | some b =>
      rw [hw] at hr
      cases b with
      | false => exact hl _ _ _ hr
      | true =>
        simp only at hr ⊢
        split at hr
        · rename_i v h' hs
          rw [opStep_le hl hs]
          exact hl _ _ _ hr
        · cases hr
theorem runCall_le {R R' : Run} (hl : R.le R') {f : FuncId} {args : List Value} {h : AH} {r : Out × AH} (hr : runCall P K R f args h = some r) : runCall P K R' f args h = some r := by
  unfold runCall at hr ⊢
  split
  · rename_i hk; rw [hk] at hr; exact hr
  · rename_i hk
    rw [hk] at hr
    simp only at hr
    split at hr
    · split at hr
      · split at hr
        · rename_i hs
          rw [hl _ _ _ hs]
          exact hr
        · cases hr
      · cases hr
    · cases hr
theorem runRound_le {R R' : Run} (hl : R.le R') {l : Nat} {args : List Value} {h : AH} {r : Out × AH} (hr : runRound R l args h = some r) : runRound R' l args h = some r := by
  unfold runRound at hr ⊢
  split at hr
  · split at hr
    · rename_i hc
      rw [if_pos hc]
      split at hr
      · rename_i hs
        rw [hl _ _ _ hs]
        exact hr
      · cases hr
    · cases hr
  · cases hr
theorem runTodo_le {R R' : Run} (hl : R.le R') {fn : FuncId} {ro : Option Nat} {ds : List Nat} {env : List Value} {k : List Item} {h : AH} {r : Out × AH} (hr : runTodo P R fn ro ds env k h = some r) : runTodo P R' fn ro ds env k h = some r := by
  unfold runTodo at hr ⊢
  split at hr
  · exact hr
  · rename_i c k
    split at hr
    · exact hl _ _ _ hr
    · exact hl _ _ _ hr
    · exact hl _ _ _ hr
    · split at hr
      · exact hl _ _ _ hr
      · cases hr
    · exact hl _ _ _ hr
    · exact hl _ _ _ hr
    · exact hl _ _ _ hr
    · split at hr
      · exact hl _ _ _ hr
      · exact hr
    · exact hr
    · split at hr
      · rename_i hs
        rw [hl _ _ _ hs]
        exact hl _ _ _ hr
      · cases hr
    · split at hr
      · rename_i hs
        rw [drawRun_le hl hs]
        exact hl _ _ _ hr
      · cases hr
    · split at hr
      · rename_i d h1 ds1 hdd
        split at hr
        · rename_i g first captured hf
          split at hr
          · rename_i hcal
            rw [if_pos hcal]
            split at hr
            · rename_i hs
              rw [hl _ _ _ hs]
              simp only
              split at hr
              · split at hr
                · cases hr
                · rename_i hb
                  rw [if_neg hb]
                  split at hr
                  · exact hl _ _ _ hr
                  · cases hr
              · cases hr
            · cases hr
          · cases hr
        · cases hr
      · cases hr
    · cases hr
  · exact hl _ _ _ hr
  · exact hl _ _ _ hr
  · exact hl _ _ _ hr
  · split at hr
    · split at hr
      · split at hr
        · exact hl _ _ _ hr
        · cases hr
      · cases hr
    · cases hr
  · cases hr

theorem run_le : ∀ n, (run P K n).le (run P K (n + 1))
  | 0, t, h, r, hr => by simp [run] at hr
  | n + 1, t, h, r, hr => by
    have ih := run_le n
    cases t with
    | todo fn ro ds env k => exact runTodo_le ih hr
    | ops all rest env => exact runOps_le ih hr
    | call f args => exact runCall_le ih hr
    | round l args => exact runRound_le ih hr
theorem run_mono {n m : Nat} (h : n ≤ m) : (run P K n).le (run P K m) := by
  induction h with
  | refl => exact fun _ _ _ h => h
  | step _ ih => exact fun t g r hr => run_le _ _ _ _ (ih t g r hr)

end Go.Ab
