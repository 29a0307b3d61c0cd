/- The abstract machine: from a world, and back. -/
import Derived.Test.YtflmoocllahjnaaAb25
namespace Go.Ab
open Go.RowKit
variable {P : Program} {K : FuncId → List Value → Option Value}

def start (base : Nat) (old : Nat → Option Blk) : AH := { base := base, next := base, old := old, new := .lf }
theorem start_get {base : Nat} {old : Nat → Option Blk} (i : Nat) : (start base old).get i = if i < base then old i else none := by
  unfold start AH.get
  split
  · rfl
  · cases i - base <;> rfl

/-- what is read of a world -/
structure Reads (P : Program) (base : Nat) (old : Nat → Option Blk) (ρ : Rho) (w : World) : Prop where
  blk : ∀ i o, i < base → old i = some o → ∀ b s, ρ i = some (b, s) → ∃ o', w.heap[b]? = some o' ∧ BRel P ρ s o o'
  low : ∀ i b s, i < base → ρ i = some (b, s) → b < w.heap.size
  none : ∀ i, base ≤ i → ρ i = none
  glob : ∀ g, g < P.globals.size → ρ g = some (g, 0)
theorem Reads.inv {base : Nat} {old : Nat → Option Blk} {ρ : Rho} {w : World} (r : Reads P base old ρ w) : Inv P w.heap.size ρ (start base old) w where
  blk := fun i o hg b s hr => by
    rw [start_get] at hg
    split at hg
    · rename_i hi; exact r.blk i o hi hg b s hr
    · cases hg
  inj := fun i j b si sj hi _ gi => by
    rw [start_get, if_neg (Nat.not_lt.2 (show base ≤ _ from hi))] at gi; cases gi
  low := fun i b s hi gi => by
    rw [start_get, if_neg (Nat.not_lt.2 (show base ≤ _ from hi))] at gi; cases gi
  old := fun i b s hi hr => r.low i b s hi hr
  fresh := fun i hi => r.none i hi
  freshG := fun i hi => by rw [start_get, if_neg (Nat.not_lt.2 (show base ≤ _ from hi))]
  glob := r.glob
  size := Nat.le_refl _
  bn := Nat.le_refl _

/-- A CALL OF THE ABSTRACT MACHINE IS ONE OF THE MODEL'S. -/
theorem calls_of {w : World} (C : Ctx P w.heap.size K) (hg : C.G w) {base : Nat} {old : Nat → Option Blk} {ρ : Rho} (r : Reads P base old ρ w) {f : FuncId} {args args' : List Value} (ha : LRel ρ args args') {Q : Out → AH → Prop}
    (hok : Ok P K (.call f args) (start base old) Q) :
    Calls P f ⟨args'⟩ w fun e w' => ∃ ρ' o h' v', e = .returned v' ∧ VRel ρ' o.v v' ∧ Q o h' ∧ Inv P w.heap.size ρ' h' w' ∧ Below w.heap.size w w' := by
  obtain ⟨n, ⟨o, h'⟩, hr, hq⟩ := hok
  intro cs
  obtain ⟨e, w', fr, ⟨ρ', v', he, hv, hevo⟩, h1, h2, h3⟩ := run_sound C n (.call f args) _ o h' hr ρ w args' r.inv hg ha cs
  exact ⟨e, w', fr, ⟨ρ', o, h', v', he, hv, hq, hevo.inv, hevo.below r.inv⟩, h1, h2, h3⟩

/-- nothing is known -/
def Ctx.empty (P : Program) (B : Nat) : Ctx P B (fun _ _ => none) where
  G := fun _ => True
  keep := fun _ _ _ _ => trivial
  call := fun _ _ _ _ h => by cases h
/-- one call, its value known of every world of a kind -/
def Ctx.one {B : Nat} {K0 : FuncId → List Value → Option Value} (G : World → Prop) (keep : ∀ w w', Below B w w' → G w → G w')
    (h : ∀ f args v w, K0 f args = some v → G w → plainL args = true ∧ plainV v = true ∧ Calls P f ⟨args⟩ w fun e w' => e = .returned v ∧ Below w.heap.size w w') : Ctx P B K0 where
  G := G
  keep := keep
  call := h

/-- A CLOSED CALL: it is run once. -/
theorem closed_call {f : FuncId} {n : Nat} {v : Value} {base : Nat} {old : Nat → Option Blk} (hv : plainV v = true)
    (hr : ((run P (fun _ _ => none) n (.call f []) (start base old)).any fun r => veq r.1.v v) = true) {w : World} {ρ : Rho} (r : Reads P base old ρ w) :
    Calls P f #[] w fun e w' => e = .returned v ∧ Below w.heap.size w w' := by
  rw [Option.any_eq_true] at hr
  obtain ⟨⟨o, h'⟩, hr, he⟩ := hr
  have he := veq_eq _ _ he
  have := calls_of (Q := fun o _ => o.v = v) (Ctx.empty P w.heap.size) trivial r (args := []) (args' := []) rfl ⟨n, _, hr, he⟩
  intro cs
  obtain ⟨e, w', fr, ⟨ρ', o', h2, v', h3, h4, h5, _, h6⟩, h7⟩ := this cs
  rw [h5] at h4
  have := plainV_eq v v' hv h4
  exact ⟨e, w', fr, ⟨by rw [h3, this], h6⟩, h7⟩

end Go.Ab
