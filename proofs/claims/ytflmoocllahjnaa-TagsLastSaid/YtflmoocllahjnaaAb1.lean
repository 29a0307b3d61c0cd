/- The abstract machine: values, heaps, operations. One deterministic reading of the model's machine: blocks are numbered by the abstract heap itself, capacities that append leaves open are not told. -/
import Derived.WalkKit
import Derived.AtR
namespace Go.Ab

/-! ### Values: the model's own, block numbers being those of the abstract heap. '.chan none' tells nothing (any value may stand there). -/
def top : Value := .chan none
def isTop : Value → Bool
  | .chan _ => true
  | _ => false

/-- one cell's value, and one that is known -/
def cellB : Value → Bool
  | .agg _ | .tuple _ | .chan _ => false
  | _ => true

mutual
/-- a constant in which no block is named -/
def plainV : Value → Bool
  | .bool _ | .int _ _ | .string _ | .pointer none | .slice none _ _ | .map none | .nilFunc | .nilIface => true
  | .iface _ v => plainV v
  | .agg cs => plainA cs
  | .tuple cs => plainA cs
  | _ => false
def plainA : Array Value → Bool
  | ⟨l⟩ => plainL l
def plainL : List Value → Bool
  | [] => true
  | v :: l => plainV v && plainL l
end

abbrev Rho := Nat → Option (Nat × Nat)

def FRel (ρ : Rho) : Fn → Fn → Prop
  | .yield l, g => ∃ b s, ρ l = some (b, s) ∧ g = .yield b
  | f, g => g = f

mutual
def VRel (ρ : Rho) : Value → Value → Prop
  | .bool b, v' => v' = .bool b
  | .int k n, v' => v' = .int k n
  | .float k n, v' => v' = .float k n
  | .complex k n m, v' => v' = .complex k n m
  | .string s, v' => v' = .string s
  | .pointer none, v' => v' = .pointer none
  | .pointer (some a), v' => ∃ b s, ρ a.block = some (b, s) ∧ v' = .pointer (some ⟨b, a.off, a.spot⟩)
  | .slice none l c, v' => v' = .slice none l c
  | .slice (some ⟨_, _, some _⟩) l c, v' => l = 0 ∧ c = 0 ∧ ∃ a' c', v' = .slice (some a') 0 c'
  | .slice (some ⟨i, o, none⟩) l c, v' => ∃ b s c', ρ i = some (b, s) ∧ c ≤ c' ∧ c' ≤ c + s ∧ v' = .slice (some ⟨b, o, none⟩) l c'
  | .map none, v' => v' = .map none
  | .map (some r), v' => ∃ b s, ρ r = some (b, s) ∧ v' = .map (some b)
  | .chan none, _ => True
  | .chan (some _), _ => False
  | .func fn fs cs, v' => ∃ fn' fs' cs', FRel ρ fn fn' ∧ ARel ρ fs fs' ∧ ARel ρ cs cs' ∧ v' = .func fn' fs' cs'
  | .nilFunc, v' => v' = .nilFunc
  | .iface t v, v' => ∃ u, VRel ρ v u ∧ v' = .iface t u
  | .nilIface, v' => v' = .nilIface
  | .agg cs, v' => ∃ cs', ARel ρ cs cs' ∧ v' = .agg cs'
  | .tuple cs, v' => ∃ cs', ARel ρ cs cs' ∧ v' = .tuple cs'
def ARel (ρ : Rho) : Array Value → Array Value → Prop
  | ⟨l⟩, a => LRel ρ l a.toList
def LRel (ρ : Rho) : List Value → List Value → Prop
  | [], l' => l' = []
  | v :: l, l' => ∃ v' t', VRel ρ v v' ∧ LRel ρ l t' ∧ l' = v' :: t'
end

/-! ### Blocks and heaps -/
inductive Blk where
  | cells (c : List Value) (elem : TypeId) (fz : Nat × Nat) (exact : Bool)
  | loop (st : LoopState) (pending : Option Code) (fn : FuncId) (tmps : List Value) (params : Array Tmp) (assign body : Code) (defers : Nat)
  | marks (here : Bool)
  | map (es : List (Value × Value × Nat)) (clock : Nat)
  | mapIter (m : Option Nat) (since : Nat) (seen : List Nat) (last : Nat)
  | strIter (s : ByteArray) (pos : Nat)

inductive Tr where
  | lf
  | nd (v : Option Blk) (l r : Tr)
def Tr.get : Tr → Nat → Option Blk
  | .lf, _ => none
  | .nd v _ _, 0 => v
  | .nd _ l r, n + 1 => if n % 2 = 0 then l.get (n / 2) else r.get (n / 2)
def Tr.setF : Nat → Tr → Nat → Option Blk → Tr
  | 0, t, _, _ => t
  | _ + 1, .lf, 0, o => .nd o .lf .lf
  | f + 1, .lf, n + 1, o => if n % 2 = 0 then .nd none (Tr.setF f .lf (n / 2) o) .lf else .nd none .lf (Tr.setF f .lf (n / 2) o)
  | _ + 1, .nd _ l r, 0, o => .nd o l r
  | f + 1, .nd v l r, n + 1, o => if n % 2 = 0 then .nd v (Tr.setF f l (n / 2) o) r else .nd v l (Tr.setF f r (n / 2) o)
def Tr.set (t : Tr) (n : Nat) (o : Option Blk) : Tr := Tr.setF (n + 1) t n o

theorem Tr.get_setF (f : Nat) : ∀ (t : Tr) (n m : Nat) (o : Option Blk), n < f → (Tr.setF f t n o).get m = if m = n then o else t.get m := by
  induction f with
  | zero => intro t n m o h; omega
  | succ f ih =>
    intro t n m o h
    cases t with
    | lf =>
      cases n with
      | zero => cases m <;> simp [Tr.setF, Tr.get]
      | succ n =>
        by_cases hn : n % 2 = 0
        · cases m with
          | zero => simp [Tr.setF, hn, Tr.get]
          | succ m =>
            simp only [Tr.setF, hn, if_true, Tr.get]
            by_cases hm : m % 2 = 0
            · simp only [hm, if_true, ih _ _ _ _ (show n / 2 < f by omega), Tr.get]
              by_cases e : m = n
              · simp [e]
              · simp [e, show ¬ m / 2 = n / 2 by omega]
            · simp [hm, show ¬ m = n by omega]
        · cases m with
          | zero => simp [Tr.setF, hn, Tr.get]
          | succ m =>
            simp only [Tr.setF, hn, if_false, Tr.get]
            by_cases hm : m % 2 = 0
            · simp [hm, show ¬ m = n by omega]
            · simp only [hm, if_false, ih _ _ _ _ (show n / 2 < f by omega), Tr.get]
              by_cases e : m = n
              · simp [e]
              · simp [e, show ¬ m / 2 = n / 2 by omega]
    | nd v l r =>
      cases n with
      | zero => cases m <;> simp [Tr.setF, Tr.get]
      | succ n =>
        by_cases hn : n % 2 = 0
        · cases m with
          | zero => simp [Tr.setF, hn, Tr.get]
          | succ m =>
            simp only [Tr.setF, hn, if_true, Tr.get]
            by_cases hm : m % 2 = 0
            · simp only [hm, if_true, ih _ _ _ _ (show n / 2 < f by omega)]
              by_cases e : m = n
              · simp [e]
              · simp [e, show ¬ m / 2 = n / 2 by omega]
            · simp [hm, show ¬ m = n by omega]
        · cases m with
          | zero => simp [Tr.setF, hn, Tr.get]
          | succ m =>
            simp only [Tr.setF, hn, if_false, Tr.get]
            by_cases hm : m % 2 = 0
            · simp [hm, show ¬ m = n by omega]
            · simp only [hm, if_false, ih _ _ _ _ (show n / 2 < f by omega)]
              by_cases e : m = n
              · simp [e]
              · simp [e, show ¬ m / 2 = n / 2 by omega]
theorem Tr.get_set (t : Tr) (n m : Nat) (o : Option Blk) : (t.set n o).get m = if m = n then o else t.get m :=
  Tr.get_setF (n + 1) t n m o (Nat.lt_succ_self _)

/-- The blocks below 'base' are read alone. -/
structure AH where
  base : Nat
  next : Nat
  old : Nat → Option Blk
  new : Tr
def AH.get (h : AH) (i : Nat) : Option Blk := if i < h.base then h.old i else h.new.get (i - h.base)
/-- one that may be written -/
def AH.set (h : AH) (i : Nat) (o : Option Blk) : AH := if i < h.base then h else { h with new := h.new.set (i - h.base) o }
def AH.alloc (h : AH) (o : Blk) : AH := { h with new := h.new.set (h.next - h.base) (some o), next := h.next + 1 }

theorem AH.get_set {h : AH} {i j : Nat} {o : Option Blk} (hi : h.base ≤ i) : (h.set i o).get j = if j = i then o else h.get j := by
  unfold AH.set AH.get
  rw [if_neg (Nat.not_lt.2 hi)]
  by_cases hj : j < h.base
  · simp [hj, show ¬ j = i by omega]
  · simp only [hj, if_false, Tr.get_set]
    by_cases e : j = i
    · simp [e]
    · simp [e, show ¬ j - h.base = i - h.base by omega]
theorem AH.set_low {h : AH} {i : Nat} {o : Option Blk} (hi : i < h.base) : h.set i o = h := by unfold AH.set; rw [if_pos hi]
@[simp] theorem AH.set_base {h : AH} {i : Nat} {o : Option Blk} : (h.set i o).base = h.base := by unfold AH.set; split <;> rfl
@[simp] theorem AH.set_next {h : AH} {i : Nat} {o : Option Blk} : (h.set i o).next = h.next := by unfold AH.set; split <;> rfl
@[simp] theorem AH.alloc_base {h : AH} {o : Blk} : (h.alloc o).base = h.base := rfl
@[simp] theorem AH.alloc_next {h : AH} {o : Blk} : (h.alloc o).next = h.next + 1 := rfl
theorem AH.get_alloc {h : AH} {j : Nat} {o : Blk} (hb : h.base ≤ h.next) : (h.alloc o).get j = if j = h.next then some o else h.get j := by
  unfold AH.alloc AH.get
  by_cases hj : j < h.base
  · simp [hj, show ¬ j = h.next by omega]
  · simp only [hj, if_false, Tr.get_set]
    by_cases e : j = h.next
    · simp [e]
    · simp [e, show ¬ j - h.base = h.next - h.base by omega]

/-! ### Lists -/
/-- 'xs' laid over a list from a place on (it must fit) -/
def splice (c : List Value) (off : Nat) (xs : List Value) : List Value := c.take off ++ xs ++ c.drop (off + xs.length)

end Go.Ab
