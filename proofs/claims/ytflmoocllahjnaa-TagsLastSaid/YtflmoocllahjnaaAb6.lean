/- The abstract machine: its operations are the model's (slices, comparisons, all that make nothing). -/
import Derived.Test.YtflmoocllahjnaaAb5
namespace Go.Ab
open Go.RowKit
variable {P : Program} {B : Nat} {ρ : Rho} {h : AH} {w : World}

def ORel (ρ : Rho) : Option Value → Option Value → Prop
  | none, v => v = none
  | some v, v' => ∃ u, VRel ρ v u ∧ v' = some u
theorem ORel.map {ev ev' : Operand → Value} (hev : ∀ x, VRel ρ (ev x) (ev' x)) (o : Option Operand) : ORel ρ (o.map ev) (o.map ev') := by
  cases o with
  | none => rfl
  | some x => exact ⟨_, hev x, rfl⟩

theorem bound_run {v v' : Value} (hv : VRel ρ v v') {d y y' r : Nat} (hy : y ≤ y') (hb : bnd (some v) d y = some r) : (∀ code, (Instr.sliceBound v' y' code).run P w = .ok r w) ∧ r ≤ y := by
  unfold bnd at hb
  split at hb
  · rename_i he; cases he
  · rename_i k i he
    cases he
    simp only [VRel] at hv
    subst hv
    split at hb
    · rename_i hi
      cases hb
      exact ⟨fun code => run_sliceBound w k i y' code hi.1 (by omega), by omega⟩
    · cases hb
  · cases hb

theorem bounds_run {lo hi mx lo' hi' mx' : Option Value} (hlo : ORel ρ lo lo') (hhi : ORel ρ hi hi') (hmx : ORel ρ mx mx') (isS : Bool) {len cap cap' m hh l : Nat} (hc : cap ≤ cap')
    (h1 : bnd mx cap cap = some m) (h2 : (if hi.isNone && mx.isSome then none else bnd hi len m) = some hh) (h3 : bnd lo 0 hh = some l) :
    (Instr.sliceBounds isS len cap' lo' hi' mx').run P w = .ok (l, hh, if mx.isSome then m else cap') w ∧ m ≤ cap ∧ l ≤ hh ∧ (mx = none → m = cap) := by
  cases mx with
  | none =>
    simp only [ORel] at hmx; subst hmx
    simp only [bnd, Option.some.injEq] at h1; subst h1
    cases hi with
    | none =>
      simp only [ORel] at hhi; subst hhi
      simp [bnd] at h2; subst h2
      cases lo with
      | none => simp only [ORel] at hlo; subst hlo; simp [bnd] at h3; subst h3; simp [Instr.sliceBounds]
      | some v =>
        obtain ⟨u, hu, rfl⟩ := hlo
        obtain ⟨hr, hle⟩ := bound_run (P := P) (w := w) hu (Nat.le_refl _) h3
        simp [Instr.sliceBounds, hr, hle]
    | some v =>
      obtain ⟨u, hu, rfl⟩ := hhi
      simp at h2
      obtain ⟨hr, hle⟩ := bound_run (P := P) (w := w) hu hc h2
      cases lo with
      | none => simp only [ORel] at hlo; subst hlo; simp [bnd] at h3; subst h3; simp [Instr.sliceBounds, hr]
      | some v =>
        obtain ⟨u, hu, rfl⟩ := hlo
        obtain ⟨hr2, hle2⟩ := bound_run (P := P) (w := w) hu (Nat.le_refl _) h3
        simp [Instr.sliceBounds, hr, hr2, hle2]
  | some x =>
    obtain ⟨ux, hux, rfl⟩ := hmx
    obtain ⟨hr0, hle0⟩ := bound_run (P := P) (w := w) hux hc h1
    cases hi with
    | none => simp at h2
    | some v =>
      obtain ⟨u, hu, rfl⟩ := hhi
      simp at h2
      obtain ⟨hr, hle⟩ := bound_run (P := P) (w := w) hu (Nat.le_refl _) h2
      cases lo with
      | none => simp only [ORel] at hlo; subst hlo; simp [bnd] at h3; subst h3; simp [Instr.sliceBounds, hr0, hr, hle0]
      | some v =>
        obtain ⟨u, hu, rfl⟩ := hlo
        obtain ⟨hr2, hle2⟩ := bound_run (P := P) (w := w) hu (Nat.le_refl _) h3
        simp [Instr.sliceBounds, hr0, hr, hr2, hle2, hle0]

theorem slice_sound (hi : Inv P B ρ h w) {t : TypeId} {x x' : Value} {lo hi_ mx lo' hi' mx' : Option Value} {v : Value} (hx : VRel ρ x x') (hlo : ORel ρ lo lo') (hhi : ORel ρ hi_ hi') (hmx : ORel ρ mx mx')
    (hv : aslice P h t x lo hi_ mx = some v) : ∃ v', (Instr.sliceAt t x' lo' hi' mx').run P w = .ok v' w ∧ VRel ρ v v' := by
  unfold aslice at hv
  split at hv
  · -- an array behind a pointer
    rename_i n e a hd
    simp only [VRel] at hx
    obtain ⟨b, s, hr, rfl⟩ := hx
    split at hv
    · rename_i m h1
      split at hv
      · rename_i hh h2
        split at hv
        · rename_i l h3
          split at hv
          · rename_i hc
            cases hv
            obtain ⟨i, hinf⟩ := Option.isSome_iff_exists.1 hc.1
            obtain ⟨hb, _, _, hm⟩ := bounds_run (P := P) (w := w) hlo hhi hmx false (Nat.le_refl n) h1 h2 h3
            have hmm : (if mx.isSome then m else n) = m := by cases mx with | none => simp [hm rfl] | some _ => simp
            rw [hmm] at hb
            obtain ⟨ab, ao, asp⟩ := a
            obtain rfl : asp = none := hc.2
            refine ⟨.slice (some (if m = l then ⟨b, ao, none⟩ else Addr.add ⟨b, ao, none⟩ (l * P.cellsOf e))) (hh - l) (m - l), ?_, ?_⟩
            · simp only [Instr.sliceAt, Sem.run_bind, run_underlying hd, Result.andThen_ok, Instr.sureAddr, Sem.run_pure, hb, size_run hinf]
            · rw [add_none, add_none]
              split <;> (simp only [VRel]; exact ⟨b, s, _, hr, Nat.le_refl _, Nat.le_add_right _ _, rfl⟩)
          · cases hv
        · cases hv
      · cases hv
    · cases hv
  · -- a string
    rename_i s hd
    simp only [VRel] at hx; subst hx
    split at hv
    · cases hv
    · rename_i hmx0
      have hmx0 : mx = none := by cases mx with | none => rfl | some _ => exact absurd rfl hmx0
      subst hmx0
      split at hv
      · rename_i hh h2
        split at hv
        · rename_i l h3
          cases hv
          obtain ⟨hb, _⟩ := bounds_run (P := P) (w := w) hlo hhi hmx false (Nat.le_refl s.size) (m := s.size) rfl (by simpa using h2) h3
          simp only [ORel] at hmx; subst hmx
          refine ⟨.string (s.extract l hh), ?_, by simp only [VRel]⟩
          simp only [Instr.sliceAt, Instr.slice, Sem.run_bind, run_underlying hd, Result.andThen_ok, Option.isSome_none, Bool.false_eq_true, if_false, Sem.run_pure] at hb ⊢
          simp [hb]
        · cases hv
      · cases hv
  · -- a nil slice
    rename_i e len cap hd
    simp only [VRel] at hx; subst hx
    split at hv
    · rename_i m h1
      split at hv
      · rename_i hh h2
        split at hv
        · rename_i l h3
          split at hv
          · rename_i hc
            cases hv
            obtain ⟨i, hinf⟩ := Option.isSome_iff_exists.1 hc
            obtain ⟨hb, _, _, hm⟩ := bounds_run (P := P) (w := w) hlo hhi hmx true (Nat.le_refl cap) h1 h2 h3
            have hmm : (if mx.isSome then m else cap) = m := by cases mx with | none => simp [hm rfl] | some _ => simp
            rw [hmm] at hb
            refine ⟨.slice none (hh - l) (m - l), ?_, by simp only [VRel]⟩
            simp only [Instr.sliceAt, Instr.slice, Sem.run_bind, run_underlying hd, Result.andThen_ok, hb, size_run hinf, Sem.run_pure, Option.map_none]
            simp
          · cases hv
        · cases hv
      · cases hv
    · cases hv
  · -- a slice
    rename_i e a len cap hd
    split at hv
    · cases hv
    · rename_i hs
      obtain ⟨ab, ao, asp⟩ := a
      have hs : asp = none := by cases asp with | none => rfl | some _ => exact absurd rfl hs
      subst hs
      simp only [VRel] at hx
      obtain ⟨b, s, c', hr, hc1, hc2, rfl⟩ := hx
      split at hv
      · rename_i m h1
        split at hv
        · rename_i hh h2
          split at hv
          · rename_i l h3
            split at hv
            · rename_i hc
              obtain ⟨i, hinf⟩ := Option.isSome_iff_exists.1 hc.1
              obtain ⟨hb, hmc, hlh, hm⟩ := bounds_run (P := P) (w := w) hlo hhi hmx true hc1 h1 h2 h3
              have hrun : (Instr.sliceAt t (.slice (some ⟨b, ao, none⟩) len c') lo' hi' mx').run P w =
                  .ok (.slice (some (if (if mx.isSome then m else c') = l then ⟨b, ao, none⟩ else ⟨b, ao + l * P.cellsOf e, none⟩)) (hh - l) ((if mx.isSome then m else c') - l)) w := by
                simp only [Instr.sliceAt, Instr.slice, Sem.run_bind, run_underlying hd, Result.andThen_ok, hb, size_run hinf, Sem.run_pure, Option.map_some, add_none]
                generalize (if mx.isSome = true then m else c') = M
                by_cases hM : M = l <;> simp [hM]
              refine ⟨_, hrun, ?_⟩
              split at hv
              · rename_i hml
                obtain ⟨hmn, rfl⟩ := hml
                have hmn : mx = none := by cases mx with | none => rfl | some _ => simp at hmn
                subst hmn
                have hm := hm rfl
                subst hm
                split at hv
                · rename_i hex
                  cases hv
                  unfold exactAt at hex
                  split at hex
                  · rename_i c el fz x hg
                    cases hex
                    obtain ⟨_, _, _, _, _, _, hx0⟩ := hi.blk _ _ hg b s hr
                    have hs0 : s = 0 := hx0 rfl
                    subst hs0
                    obtain rfl : c' = m := by omega
                    simp only [Option.isSome_none, Bool.false_eq_true, if_false, if_true]
                    simp only [VRel]
                    exact ⟨b, 0, _, hr, Nat.le_refl _, Nat.le_refl _, rfl⟩
                  · cases hex
                · cases hv
                  obtain rfl : hh = m := by omega
                  simp only [dangling, VRel]
                  rw [Nat.sub_self]
                  exact ⟨trivial, trivial, _, _, rfl⟩
                · cases hv
              · rename_i hml
                cases hv
                cases mx with
                | none =>
                  have hm := hm rfl
                  subst hm
                  have hne : ¬ m = l := fun e => hml ⟨rfl, e⟩
                  simp only [Option.isSome_none, Bool.false_eq_true, if_false]
                  rw [if_neg hne, if_neg (by omega), add_none]
                  simp only [VRel]
                  exact ⟨b, s, _, hr, by omega, by omega, rfl⟩
                | some y =>
                  simp only [Option.isSome_some, if_true]
                  rw [add_none]
                  split <;> (simp only [VRel]; exact ⟨b, s, _, hr, Nat.le_refl _, Nat.le_add_right _ _, rfl⟩)
            · cases hv
          · cases hv
        · cases hv
      · cases hv
  · cases hv

end Go.Ab
