/- A part of the proof of the statement that this folder claims, with no condition: definitions and lemmas on which the last text leans. -/
import Derived.Test.YtflmoocllahjnaaTgL
import Derived.WalkKit
import Derived.ProofKit
import Derived.OpenShut
import Derived.ShutString
import Derived.ChangeOld
import Derived.Below
namespace Go.Proofs.Ytflmoocllahjnaa
open Go Go.Ab Go.RowKit

theorem noGlobals : Pr.globals.size = 0 := by kernel_rfl
theorem reads_none {w : World} : Reads Pr 0 (fun _ => none) (fun _ => none) w where
  blk := fun i o hi => by omega
  low := fun i b s hi => by omega
  none := fun _ _ => rfl
  glob := fun g hg => by rw [noGlobals] at hg; omega
theorem awake_run : ((run Pr (fun _ _ => none) 1000 (.call 5 []) (Go.Ab.start 0 (fun _ => none))).any fun r => veq r.1.v (.bool true)) = true := by kernel_rfl
theorem awake_calls (w : World) : Calls Pr 5 #[] w fun e w' => e = .returned (.bool true) ∧ Below w.heap.size w w' := closed_call rfl awake_run reads_none
noncomputable def ctx (B : Nat) : Ctx Pr B K := Ctx.one (fun _ => True) (fun _ _ _ _ => trivial) (by
  intro f args v w hk _
  unfold K at hk
  split at hk
  · rename_i hf
    split at hk
    · rename_i ha
      cases hk
      subst hf
      have : args = [] := by simpa using ha
      subst this
      exact ⟨rfl, rfl, awake_calls w⟩
    · cases hk
  · cases hk)

/-- integers alone are looked at -/
def san : Value → Value
  | .int k n => .int k n
  | _ => top
theorem san_rel {ρ : Rho} : ∀ l : List Value, LRel ρ (l.map san) l
  | [] => rfl
  | v :: l => by
    refine LRel.cons ?_ (san_rel l)
    cases v <;> simp [san, top, VRel]

/-- WHAT THE WALK IS TOLD OF A SLICE OF INTEGERS THAT CAME IN -/
def IsRow (k : IntKind) (w : World) (a : Option Addr) (len cap : Nat) (zs : List Int) : Prop :=
  (a = none ∧ len = 0 ∧ cap = 0 ∧ zs = []) ∨
  ∃ x, a = some x ∧ len ≤ cap ∧ cap ≤ maxLen ∧ zs.length = cap ∧ (∀ i, i < zs.length → w.cell? (x.add i) = some (.int k (zs.getD i 0))) ∧ ∀ n ∈ zs, (Lit.int k n).wf = true

theorem add_at {x : Addr} {i : Nat} (h : x.spot = none) : x.add i = ⟨x.block, x.off + i, none⟩ := by
  unfold Addr.add
  split
  · rename_i hi; subst hi; cases x; simp at h; subst h; rfl
  · rfl
theorem walk (a b a1 : Int) (a2 : Option Addr) (len2 cap2 : Nat) (z2 : List Int) (w : World) (w2 : IsRow .i64 w a2 len2 cap2 z2) :
    Calls Try.prog 3 #[.agg #[.int .i64 a, .int .i64 b], .int .i64 a1, .slice a2 len2 cap2] w fun e w' => e = .returned (.bool true) ∧ Below w.heap.size w w' := by
  have fin : ∀ {base : Nat} {old : Nat → Option Blk} {ρ : Rho} {t2 : Value} {xs : List Int}, Reads Pr base old ρ w → VRel ρ t2 (.slice a2 len2 cap2) → ArgL (Go.Ab.start base old) t2 xs →
      Calls Try.prog 3 #[.agg #[.int .i64 a, .int .i64 b], .int .i64 a1, .slice a2 len2 cap2] w fun e w' => e = .returned (.bool true) ∧ Below w.heap.size w w' := by
    intro base old ρ t2 xs r hv harg
    have ok := law_ok (h := Go.Ab.start base old) (Nat.le_refl _) (n := a) (w := b) (no := a1) harg (Q := fun v _ => v = .bool true) (fun _ => rfl)
    have hargs : LRel ρ [.agg ⟨[.int .i64 a, .int .i64 b]⟩, .int .i64 a1, t2] [.agg #[.int .i64 a, .int .i64 b], .int .i64 a1, .slice a2 len2 cap2] := by
      refine LRel.cons ?_ (LRel.cons ?_ (LRel.cons hv rfl))
      · simp only [VRel]
        refine ⟨#[.int .i64 a, .int .i64 b], ?_, rfl⟩
        simp only [ARel]
        exact LRel.cons (by simp only [VRel]) (LRel.cons (by simp only [VRel]) rfl)
      · simp only [VRel]
    have := calls_of (ctx w.heap.size) trivial r hargs ok
    intro cs
    obtain ⟨e, w', fr, ⟨ρ', o, h', v', he, hv', hq, _, hb⟩, hx⟩ := this cs
    rw [hq] at hv'
    simp only [VRel] at hv'
    exact ⟨e, w', fr, ⟨by rw [he, hv'], hb⟩, hx⟩
  rcases w2 with ⟨rfl, rfl, rfl, rfl⟩ | ⟨x, rfl, hl, hm, hz, hcell, hwf⟩
  · exact fin (t2 := .slice none 0 0) (xs := []) reads_none (by simp only [VRel]) ⟨none, 0, rfl, fun i x hx => by simp at hx⟩
  · rcases Nat.eq_zero_or_pos len2 with h0 | h0
    · subst h0
      exact fin (t2 := .slice (some ⟨0, 0, some 0⟩) 0 0) (xs := []) reads_none (by simp only [VRel]; exact ⟨trivial, trivial, x, cap2, rfl⟩) ⟨some ⟨0, 0, some 0⟩, 0, rfl, fun i x hx => by simp at hx⟩
    · have h00 := hcell 0 (by omega)
      obtain ⟨cc, e, fz, hb, hs⟩ : ∃ cc e fz, w.heap[x.block]? = some (.cells cc e fz) ∧ x.spot = none := by
        have hx0 : x.add 0 = x := rfl
        rw [hx0] at h00
        unfold World.cell? at h00
        split at h00
        · rename_i c e fz hb
          split at h00
          · cases h00
          · rename_i hs
            exact ⟨c, e, fz, hb, by simpa using hs⟩
        · cases h00
      have hat : ∀ i, i < z2.length → cc[x.off + i]? = some (.int .i64 (z2.getD i 0)) := by
        intro i hi
        have := hcell i hi
        rw [add_at hs] at this
        unfold World.cell? at this
        rw [hb] at this
        simpa using this
      refine fin (base := 1) (old := fun i => if i = 0 then some (.cells (cc.toList.map san) e fz false) else none) (ρ := fun i => if i = 0 then some (x.block, 0) else none) (t2 := .slice (some ⟨0, x.off, none⟩) len2 cap2) (xs := z2.take len2) ?_ ?_ ?_
      · exact {
          blk := fun i o hi ho b s hr => by
            have : i = 0 := by omega
            subst this
            simp only [if_true, Option.some.injEq, Prod.mk.injEq] at ho hr
            subst ho
            obtain ⟨rfl, rfl⟩ := hr
            refine ⟨_, hb, cc, rfl, ?_, by simp, fun h => by cases h⟩
            rw [List.length_map, List.take_of_length_le (by simp)]
            exact san_rel _
          low := fun i b s hi hr => by
            have : i = 0 := by omega
            subst this
            simp only [if_true, Option.some.injEq, Prod.mk.injEq] at hr
            obtain ⟨rfl, rfl⟩ := hr
            exact (Array.getElem?_eq_some_iff.1 hb).1
          none := fun i hi => by rw [if_neg (by omega)]
          glob := fun g hg => by rw [noGlobals] at hg; omega }
      · simp only [VRel]
        exact ⟨x.block, 0, cap2, by simp, Nat.le_refl _, by omega, by cases x; simp at hs; subst hs; rfl⟩
      · refine ⟨some ⟨0, x.off, none⟩, cap2, by rw [List.length_take, Nat.min_eq_left (by omega)], fun i y hy => ?_⟩
        rw [List.getElem?_take] at hy
        split at hy
        · rename_i hi
          refine ⟨0, x.off, cc.toList.map san, e, fz, false, rfl, by show 0 < 1; omega, by rw [start_get]; simp, ?_⟩
          rw [List.getElem?_map, Array.getElem?_toList, hat i (by omega)]
          have : z2.getD i 0 = y := by rw [List.getD_eq_getElem?_getD, hy]; rfl
          rw [this]; rfl
        · cases hy

end Go.Proofs.Ytflmoocllahjnaa
