/- The abstract machine: its operations are the model's (comparisons; all that make nothing; those that make one block). -/
import Derived.Test.YtflmoocllahjnaaAb6
import Derived.ChangeKeysEq
namespace Go.Ab
open Go.RowKit
variable {P : Program} {B : Nat} {ρ : Rho} {h : AH} {w : World}

theorem eqFields_sound {d : Nat} {eq : TypeId → Value → Value → Option Bool} (heq : ∀ t x y x' y' r, VRel ρ x x' → VRel ρ y y' → eq t x y = some r → (Op.equalIn d t x' y').run P w = .ok r w)
    {xs ys xs' ys' : List Value} (hx : LRel ρ xs xs') (hy : LRel ρ ys ys') : ∀ (fs : List Field) (r : Bool), aeqFields P eq xs ys fs = some r → (Op.eqFields d ⟨xs'⟩ ⟨ys'⟩ fs).run P w = .ok r w
  | [], r, h => by simp only [aeqFields, Option.some.injEq] at h; subst h; simp [Op.eqFields]
  | f :: fs, r, h => by
    simp only [aeqFields] at h
    split at h
    · rename_i hn
      simp only [Op.eqFields, hn, ne_eq, not_true_eq_false, if_false]
      exact eqFields_sound heq hx hy fs r h
    · rename_i hn
      simp only [Op.eqFields, ne_eq, hn, not_false_eq_true, if_true, Sem.run_bind]
      split at h
      · rename_i x y h1 h2
        obtain ⟨x', hxr, hxv⟩ := part_run (P := P) (w := w) h1 hx
        obtain ⟨y', hyr, hyv⟩ := part_run (P := P) (w := w) h2 hy
        simp only [hxr, hyr, Result.andThen_ok]
        split at h
        · rename_i h3
          have := heq _ _ _ _ _ _ hxv hyv h3
          simp only [this, Result.andThen_ok]
          simpa using eqFields_sound heq hx hy fs r h
        · rename_i h3
          cases h
          have := heq _ _ _ _ _ _ hxv hyv h3
          simp [this]
        · cases h
      · cases h
theorem eqElems_sound {d : Nat} {e : TypeId} {eq : TypeId → Value → Value → Option Bool} (heq : ∀ t x y x' y' r, VRel ρ x x' → VRel ρ y y' → eq t x y = some r → (Op.equalIn d t x' y').run P w = .ok r w)
    {xs ys xs' ys' : List Value} (hx : LRel ρ xs xs') (hy : LRel ρ ys ys') : ∀ (is : List Nat) (r : Bool), aeqElems P eq e xs ys is = some r → (Op.eqItems d e (P.cellsOf e) ⟨xs'⟩ ⟨ys'⟩ is).run P w = .ok r w
  | [], r, h => by simp only [aeqElems, Option.some.injEq] at h; subst h; simp [Op.eqItems]
  | i :: is, r, h => by
    simp only [aeqElems] at h
    simp only [Op.eqItems, Sem.run_bind]
    split at h
    · rename_i x y h1 h2
      obtain ⟨x', hxr, hxv⟩ := part_run (P := P) (w := w) h1 hx
      obtain ⟨y', hyr, hyv⟩ := part_run (P := P) (w := w) h2 hy
      simp only [hxr, hyr, Result.andThen_ok]
      split at h
      · rename_i h3
        have := heq _ _ _ _ _ _ hxv hyv h3
        simp only [this, Result.andThen_ok]
        simpa using eqElems_sound heq hx hy is r h
      · rename_i h3
        cases h
        have := heq _ _ _ _ _ _ hxv hyv h3
        simp [this]
      · cases h
    · cases h

set_option maxHeartbeats 1000000 in
theorem aeq_sound (d : Nat) : ∀ (t : TypeId) (x y x' y' : Value) (r : Bool), VRel ρ x x' → VRel ρ y y' → aeq P d t x y = some r → (Op.equalIn d t x' y').run P w = .ok r w := by
  induction d with
  | zero => intro _ _ _ _ _ _ _ _ h; simp [aeq] at h
  | succ d ih =>
    intro t x y x' y' r hx hy h
    unfold aeq at h
    split at h
    · rename_i hd; simp only [VRel] at hx hy; subst hx; subst hy; cases h; simp [Op.equalIn, run_underlying hd]
    · rename_i hd
      simp only [VRel] at hx hy; subst hx; subst hy
      split at h
      · rename_i hk; cases h; simp [Op.equalIn, run_underlying hd, hk]
      · cases h
    · rename_i hd; simp only [VRel] at hx hy; subst hx; subst hy; cases h; simp [Op.equalIn, run_underlying hd]
    · rename_i b hd
      simp only [VRel] at hx; subst hx; cases h
      cases b with
      | none => simp only [VRel] at hy; subst hy; simp [Op.equalIn, run_underlying hd]
      | some b => simp only [VRel] at hy; obtain ⟨_, _, _, rfl⟩ := hy; simp [Op.equalIn, run_underlying hd]
    · rename_i hd
      simp only [VRel] at hx hy; obtain ⟨_, _, _, rfl⟩ := hx; subst hy; cases h; simp [Op.equalIn, run_underlying hd]
    · rename_i hd; simp only [VRel] at hx hy; subst hx; subst hy; cases h; simp [Op.equalIn, run_underlying hd]
    · rename_i hd; simp only [VRel] at hx hy; subst hx; obtain ⟨_, _, rfl⟩ := hy; cases h; simp [Op.equalIn, run_underlying hd]
    · rename_i hd; simp only [VRel] at hx hy; obtain ⟨_, _, rfl⟩ := hx; subst hy; cases h; simp [Op.equalIn, run_underlying hd]
    · rename_i fs xs ys hd
      simp only [VRel] at hx hy
      obtain ⟨xs', hxs, rfl⟩ := hx
      obtain ⟨ys', hys, rfl⟩ := hy
      split at h
      · cases h
      · rename_i hst
        have hf : P.fieldsOf t = fs := by simp [Program.fieldsOf, hd]
        rw [run_equalIn_struct w d t xs' ys' (by rw [hf]; exact hd) (by simpa using hst), hf]
        exact eqFields_sound ih (ARel_iff.1 hxs) (ARel_iff.1 hys) _ _ h
    · rename_i n e xs ys hd
      simp only [VRel] at hx hy
      obtain ⟨xs', hxs, rfl⟩ := hx
      obtain ⟨ys', hys, rfl⟩ := hy
      split at h
      · rename_i he
        obtain ⟨i, hi⟩ := Option.isSome_iff_exists.1 he
        rw [run_equalIn_array w d xs' ys' hd hi]
        exact eqElems_sound ih (ARel_iff.1 hxs) (ARel_iff.1 hys) _ _ h
      · cases h
    · rename_i b _ _ hd
      simp only [VRel] at hx; subst hx; cases h
      cases b with
      | none => simp only [VRel] at hy; subst hy; simp [Op.equalIn, run_underlying hd]
      | some b =>
        obtain ⟨_, _, sp⟩ := b
        cases sp with
        | none => simp only [VRel] at hy; obtain ⟨_, _, _, _, _, _, rfl⟩ := hy; simp [Op.equalIn, run_underlying hd]
        | some _ => simp only [VRel] at hy; obtain ⟨_, _, _, _, rfl⟩ := hy; simp [Op.equalIn, run_underlying hd]
    · rename_i a _ _ _ _ hd
      simp only [VRel] at hy; subst hy; cases h
      obtain ⟨_, _, sp⟩ := a
      cases sp with
      | none => simp only [VRel] at hx; obtain ⟨_, _, _, _, _, _, rfl⟩ := hx; simp [Op.equalIn, run_underlying hd]
      | some _ => simp only [VRel] at hx; obtain ⟨_, _, _, _, rfl⟩ := hx; simp [Op.equalIn, run_underlying hd]
    · rename_i b hd
      simp only [VRel] at hx; subst hx; cases h
      cases b with
      | none => simp only [VRel] at hy; subst hy; simp [Op.equalIn, run_underlying hd]
      | some b => simp only [VRel] at hy; obtain ⟨_, _, _, rfl⟩ := hy; simp [Op.equalIn, run_underlying hd]
    · rename_i hd
      simp only [VRel] at hx hy; obtain ⟨_, _, _, rfl⟩ := hx; subst hy; cases h; simp [Op.equalIn, run_underlying hd]
    · rename_i hd; simp only [VRel] at hx hy; subst hx; subst hy; cases h; simp [Op.equalIn, run_underlying hd]
    · rename_i hd; simp only [VRel] at hx hy; subst hx; obtain ⟨_, _, _, _, _, _, rfl⟩ := hy; cases h; simp [Op.equalIn, run_underlying hd]
    · rename_i hd; simp only [VRel] at hx hy; obtain ⟨_, _, _, _, _, _, rfl⟩ := hx; subst hy; cases h; simp [Op.equalIn, run_underlying hd]
    · cases h

end Go.Ab
