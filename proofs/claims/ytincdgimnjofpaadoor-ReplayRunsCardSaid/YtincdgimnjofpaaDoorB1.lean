/- The abstract machine: its operations are the model's. -/
import Derived.WalkKit
import Derived.AtR
import Derived.ChangeKeysEq
section
namespace Go.Ab
noncomputable section

/-! ### Values: the model's own, block numbers being those of the abstract heap. '.chan none' tells nothing (any value may stand there). -/
def top : Value := .chan none
def isTop : Value → Bool
  | .chan _ => true
  | _ => false

/-- one cell's value, and one that is known -/
def cellB : Value → Bool
  | .agg _ | .tuple _ | .chan _ => false
  | _ => true

mutual
/-- a constant in which no block is named -/
def plainV : Value → Bool
  | .bool _ | .int _ _ | .string _ | .pointer none | .slice none _ _ | .map none | .nilFunc | .nilIface => true
  | .iface _ v => plainV v
  | .agg cs => plainA cs
  | .tuple cs => plainA cs
  | _ => false
def plainA : Array Value → Bool
  | ⟨l⟩ => plainL l
def plainL : List Value → Bool
  | [] => true
  | v :: l => plainV v && plainL l
end

/-- of an abstract block: the block that it stands for, how many elements more that may have, and from where in it the abstract block's cells lie -/
abbrev Rho := Nat → Option (Nat × (Nat × Nat))

def FRel (ρ : Rho) : Fn → Fn → Prop
  | .yield l, g => ∃ b s, ρ l = some (b, s) ∧ g = .yield b
  | f, g => g = f

mutual
def VRel (ρ : Rho) : Value → Value → Prop
  | .bool b, v' => v' = .bool b
  | .int k n, v' => v' = .int k n
  | .float k n, v' => v' = .float k n
  | .complex k n m, v' => v' = .complex k n m
  | .string s, v' => v' = .string s
  | .pointer none, v' => v' = .pointer none
  | .pointer (some a), v' => ∃ b s, ρ a.block = some (b, s) ∧ v' = .pointer (some ⟨b, a.off + s.2, a.spot⟩)
  | .slice none l c, v' => v' = .slice none l c
  | .slice (some ⟨i, o, some x⟩) l c, v' => l = 0 ∧ c = 0 ∧ ∃ a' c', (x = 1 → c' = 0) ∧ (x = 2 → ∃ b s, ρ i = some (b, s) ∧ c' ≤ s.1 ∧ (0 < c' → a' = ⟨b, o + s.2, none⟩)) ∧ v' = .slice (some a') 0 c'
  | .slice (some ⟨i, o, none⟩) l c, v' => ∃ b s c', ρ i = some (b, s) ∧ c ≤ c' ∧ c' ≤ c + s.1 ∧ v' = .slice (some ⟨b, o + s.2, none⟩) l c'
  | .map none, v' => v' = .map none
  | .map (some r), v' => ∃ b s, ρ r = some (b, s) ∧ v' = .map (some b)
  | .chan none, _ => True
  | .chan (some _), _ => False
  | .func fn fs cs, v' => ∃ fn' fs' cs', FRel ρ fn fn' ∧ ARel ρ fs fs' ∧ ARel ρ cs cs' ∧ v' = .func fn' fs' cs'
  | .nilFunc, v' => v' = .nilFunc
  | .iface t v, v' => ∃ u, VRel ρ v u ∧ v' = .iface t u
  | .nilIface, v' => v' = .nilIface
  | .agg cs, v' => ∃ cs', ARel ρ cs cs' ∧ v' = .agg cs'
  | .tuple cs, v' => ∃ cs', ARel ρ cs cs' ∧ v' = .tuple cs'
def ARel (ρ : Rho) : Array Value → Array Value → Prop
  | ⟨l⟩, a => LRel ρ l a.toList
def LRel (ρ : Rho) : List Value → List Value → Prop
  | [], l' => l' = []
  | v :: l, l' => ∃ v' t', VRel ρ v v' ∧ LRel ρ l t' ∧ l' = v' :: t'
end

/-! ### Blocks and heaps -/
inductive Blk where
  | cells (c : List Value) (elem : TypeId) (fz : Nat × Nat) (exact : Bool)
  | loop (st : LoopState) (pending : Option Code) (fn : FuncId) (tmps : List Value) (params : Array Tmp) (assign body : Code) (defers : Nat)
  | marks (here : Bool)
  | map (es : List (Value × Value × Nat)) (clock : Nat)
  | mapIter (m : Option Nat) (since : Nat) (seen : List Nat) (last : Nat)
  | strIter (s : ByteArray) (pos : Nat)

inductive Tr (α : Type) where
  | lf
  | nd (v : α) (l r : Tr α)
noncomputable def Tr.get {α : Type} (d : α) (t : Tr α) : Nat → α :=
  Tr.rec (motive := fun _ => Nat → α) (fun _ => d) (fun v _ _ gl gr n => Nat.rec (motive := fun _ => α) v (fun m _ => Nat.rec (motive := fun _ => α) (gl (Nat.div m 2)) (fun _ _ => gr (Nat.div m 2)) (Nat.mod m 2)) n) t
noncomputable def Tr.path {α : Type} (d : α) (f : Nat) : Nat → α → Tr α :=
  Nat.rec (motive := fun _ => Nat → α → Tr α) (fun _ _ => .lf) (fun _ ih n o => Nat.rec (motive := fun _ => Tr α) (.nd o .lf .lf) (fun m _ => Nat.rec (motive := fun _ => Tr α) (.nd d (ih (Nat.div m 2) o) .lf) (fun _ _ => .nd d .lf (ih (Nat.div m 2) o)) (Nat.mod m 2)) n) f
noncomputable def Tr.set {α : Type} (d : α) (t : Tr α) : Nat → α → Tr α :=
  Tr.rec (motive := fun _ => Nat → α → Tr α) (fun n o => Tr.path d (n + 1) n o)
    (fun v l r sl sr n o => Nat.rec (motive := fun _ => Tr α) (.nd o l r) (fun m _ => Nat.rec (motive := fun _ => Tr α) (.nd v (sl (Nat.div m 2) o) r) (fun _ _ => .nd v l (sr (Nat.div m 2) o)) (Nat.mod m 2)) n) t
theorem rec_mod {β : Type} (n : Nat) (a b : β) : Nat.rec (motive := fun _ => β) a (fun _ _ => b) (Nat.mod n 2) = if n % 2 = 0 then a else b := by
  show Nat.rec (motive := fun _ => β) a (fun _ _ => b) (n % 2) = _
  cases n % 2 <;> rfl
theorem Tr.get_lf {α : Type} (d : α) (n : Nat) : (Tr.lf : Tr α).get d n = d := rfl
theorem Tr.get_z {α : Type} (d v : α) (l r : Tr α) : (Tr.nd v l r).get d 0 = v := rfl
theorem Tr.get_s {α : Type} (d v : α) (l r : Tr α) (n : Nat) : (Tr.nd v l r).get d (n + 1) = if n % 2 = 0 then l.get d (n / 2) else r.get d (n / 2) := rec_mod _ _ _
theorem Tr.path_z {α : Type} (d : α) (f : Nat) (o : α) : Tr.path d (f + 1) 0 o = .nd o .lf .lf := rfl
theorem Tr.path_s {α : Type} (d : α) (f n : Nat) (o : α) : Tr.path d (f + 1) (n + 1) o = if n % 2 = 0 then .nd d (Tr.path d f (n / 2) o) .lf else .nd d .lf (Tr.path d f (n / 2) o) := rec_mod _ _ _
theorem Tr.set_lf {α : Type} (d : α) (n : Nat) (o : α) : (Tr.lf : Tr α).set d n o = Tr.path d (n + 1) n o := rfl
theorem Tr.set_z {α : Type} (d v : α) (l r : Tr α) (o : α) : (Tr.nd v l r).set d 0 o = .nd o l r := rfl
theorem Tr.set_s {α : Type} (d v : α) (l r : Tr α) (n : Nat) (o : α) : (Tr.nd v l r).set d (n + 1) o = if n % 2 = 0 then .nd v (l.set d (n / 2) o) r else .nd v l (r.set d (n / 2) o) := rec_mod _ _ _
theorem Tr.get_path {α : Type} (d : α) : ∀ (f n m : Nat) (o : α), n < f → (Tr.path d f n o).get d m = if m = n then o else d
  | 0, n, _, _, h => absurd h (Nat.not_lt_zero n)
  | f + 1, 0, m, o, _ => by
    rw [Tr.path_z]
    cases m with
    | zero => simp [Tr.get_z]
    | succ m => simp [Tr.get_s, Tr.get_lf]
  | f + 1, n + 1, m, o, h => by
    have ih := fun m => Tr.get_path d f (n / 2) m o (by omega)
    rw [Tr.path_s]
    by_cases hn : n % 2 = 0
    · rw [if_pos hn]
      cases m with
      | zero => simp [Tr.get_z]
      | succ m =>
        rw [Tr.get_s]
        by_cases hm : m % 2 = 0
        · rw [if_pos hm, ih]
          by_cases e : m = n
          · simp [e]
          · simp [e, show ¬ m / 2 = n / 2 by omega]
        · rw [if_neg hm, Tr.get_lf]; simp [show ¬ m = n by omega]
    · rw [if_neg hn]
      cases m with
      | zero => simp [Tr.get_z]
      | succ m =>
        rw [Tr.get_s]
        by_cases hm : m % 2 = 0
        · rw [if_pos hm, Tr.get_lf]; simp [show ¬ m = n by omega]
        · rw [if_neg hm, ih]
          by_cases e : m = n
          · simp [e]
          · simp [e, show ¬ m / 2 = n / 2 by omega]
theorem Tr.get_set {α : Type} (d : α) : ∀ (t : Tr α) (n m : Nat) (o : α), (t.set d n o).get d m = if m = n then o else t.get d m
  | .lf, n, m, o => by rw [Tr.get_lf, Tr.set_lf]; exact Tr.get_path d (n + 1) n m o (Nat.lt_succ_self _)
  | .nd v l r, 0, m, o => by
    rw [Tr.set_z]
    cases m with
    | zero => simp [Tr.get_z]
    | succ m => simp [Tr.get_s]
  | .nd v l r, n + 1, m, o => by
    rw [Tr.set_s]
    by_cases hn : n % 2 = 0
    · rw [if_pos hn]
      cases m with
      | zero => simp [Tr.get_z]
      | succ m =>
        rw [Tr.get_s, Tr.get_s]
        by_cases hm : m % 2 = 0
        · rw [if_pos hm, if_pos hm, Tr.get_set d l]
          by_cases e : m = n
          · simp [e]
          · simp [e, show ¬ m / 2 = n / 2 by omega]
        · rw [if_neg hm, if_neg hm]; simp [show ¬ m = n by omega]
    · rw [if_neg hn]
      cases m with
      | zero => simp [Tr.get_z]
      | succ m =>
        rw [Tr.get_s, Tr.get_s]
        by_cases hm : m % 2 = 0
        · rw [if_pos hm, if_pos hm]; simp [show ¬ m = n by omega]
        · rw [if_neg hm, if_neg hm, Tr.get_set d r]
          by_cases e : m = n
          · simp [e]
          · simp [e, show ¬ m / 2 = n / 2 by omega]

structure AH where
  base : Nat
  next : Nat
  old : Nat → Option Blk
  new : Tr (Option Blk)
def AH.get (h : AH) (i : Nat) : Option Blk := AH.rec (motive := fun _ => Option Blk) (fun base _ old new => Bool.rec (motive := fun _ => Option Blk) (new.get none (Nat.sub i base)) (old i) (Nat.blt i base)) h
/-- one that may be written -/
def AH.set (h : AH) (i : Nat) (o : Option Blk) : AH := AH.rec (motive := fun _ => AH) (fun base next old new => Bool.rec (motive := fun _ => AH) ⟨base, next, old, new.set none (Nat.sub i base) o⟩ ⟨base, next, old, new⟩ (Nat.blt i base)) h
def AH.alloc (h : AH) (o : Blk) : AH := AH.rec (motive := fun _ => AH) (fun base next old new => ⟨base, Nat.succ next, old, new.set none (Nat.sub next base) (some o)⟩) h
theorem AH.get_eq (h : AH) (i : Nat) : h.get i = if i < h.base then h.old i else h.new.get none (i - h.base) := by
  obtain ⟨base, next, old, new⟩ := h
  simp only [AH.get]
  cases hb : Nat.blt i base with
  | true => rw [if_pos (by simpa [Nat.blt_eq] using hb)]
  | false => rw [if_neg (by rw [← Nat.blt_eq, hb]; simp)]; rfl
theorem AH.set_eq (h : AH) (i : Nat) (o : Option Blk) : h.set i o = if i < h.base then h else { h with new := h.new.set none (i - h.base) o } := by
  obtain ⟨base, next, old, new⟩ := h
  simp only [AH.set]
  cases hb : Nat.blt i base with
  | true => rw [if_pos (by simpa [Nat.blt_eq] using hb)]
  | false => rw [if_neg (by rw [← Nat.blt_eq, hb]; simp)]; rfl
theorem AH.alloc_eq (h : AH) (o : Blk) : h.alloc o = { h with new := h.new.set none (h.next - h.base) (some o), next := h.next + 1 } := rfl

theorem AH.get_set {h : AH} {i j : Nat} {o : Option Blk} (hi : h.base ≤ i) : (h.set i o).get j = if j = i then o else h.get j := by
  rw [AH.set_eq, if_neg (Nat.not_lt.2 hi), AH.get_eq, AH.get_eq]
  by_cases hj : j < h.base
  · simp [hj, show ¬ j = i by omega]
  · simp only [hj, if_false, Tr.get_set]
    by_cases e : j = i
    · simp [e]
    · simp [e, show ¬ j - h.base = i - h.base by omega]
theorem AH.set_low {h : AH} {i : Nat} {o : Option Blk} (hi : i < h.base) : h.set i o = h := by rw [AH.set_eq, if_pos hi]
@[simp] theorem AH.set_base {h : AH} {i : Nat} {o : Option Blk} : (h.set i o).base = h.base := by rw [AH.set_eq]; split <;> rfl
@[simp] theorem AH.set_next {h : AH} {i : Nat} {o : Option Blk} : (h.set i o).next = h.next := by rw [AH.set_eq]; split <;> rfl
@[simp] theorem AH.alloc_base {h : AH} {o : Blk} : (h.alloc o).base = h.base := rfl
@[simp] theorem AH.alloc_next {h : AH} {o : Blk} : (h.alloc o).next = h.next + 1 := rfl
theorem AH.get_alloc {h : AH} {j : Nat} {o : Blk} (hb : h.base ≤ h.next) : (h.alloc o).get j = if j = h.next then some o else h.get j := by
  rw [AH.alloc_eq, AH.get_eq, AH.get_eq]
  by_cases hj : j < h.base
  · simp [hj, show ¬ j = h.next by omega]
  · simp only [hj, if_false, Tr.get_set]
    by_cases e : j = h.next
    · simp [e]
    · simp [e, show ¬ j - h.base = h.next - h.base by omega]

/-! ### Lists -/
/-- 'xs' laid over a list from a place on (it must fit) -/
def splice (c : List Value) (off : Nat) (xs : List Value) : List Value := c.take off ++ xs ++ c.drop (off + xs.length)

end
end Go.Ab
end
section
namespace Go.Ab
noncomputable section

/-! ### Types -/
def aggOf (P : Program) (t : TypeId) : Option Bool :=
  (P.underlying t).map fun | .struct _ | .array _ _ => true | _ => false
def zeroOf (P : Program) (t : TypeId) : Option (List Value) :=
  ((P.info? t).bind (·.zero)).bind fun z =>
    if plainV z && z.cells.toList.all cellB && z.cells.size == P.cellsOf t then some z.cells.toList else none
def bytesOf (P : Program) (t : TypeId) : Nat := P.bytesOf t

/-! ### Reading and writing -/
def loadCellsAt (h : AH) (a : Addr) (n : Nat) : Option (List Value) :=
  if a.spot.isSome then none else
  match h.get a.block with
  | some (.cells c _ _ _) => if a.off + n ≤ c.length then some ((c.drop a.off).take n) else none
  | _ => none
def aload (P : Program) (h : AH) (t : TypeId) (a : Addr) : Option Value :=
  match aggOf P t with
  | some true => (loadCellsAt h a (P.cellsOf t)).map fun l => .agg ⟨l⟩
  | some false =>
    if a.spot.isSome then none else
    match h.get a.block with
    | some (.cells c _ _ _) => c[a.off]?
    | _ => none
  | none => none
def storeCellsAt (h : AH) (a : Addr) (vs : List Value) : Option AH :=
  if a.spot.isSome || a.block < h.base || !vs.all cellB then none else
  match h.get a.block with
  | some (.cells c e fz x) => if fz.2 = 0 ∧ a.off + vs.length ≤ c.length then some (h.set a.block (some (.cells (splice c a.off vs) e fz x))) else none
  | _ => none
def cellsOfV (v : Value) : Option (List Value) := if isTop v then none else some v.cells.toList
def astore (P : Program) (h : AH) (t : TypeId) (a : Addr) (v : Value) : Option AH :=
  match cellsOfV v with
  | some vs => if vs.length = P.cellsOf t ∧ (P.info? t).isSome then storeCellsAt h a vs else none
  | none => none
def apart (P : Program) (t : TypeId) (cs : List Value) (off : Nat) : Option Value :=
  match aggOf P t with
  | some true => if off + P.cellsOf t ≤ cs.length then some (.agg ⟨(cs.drop off).take (P.cellsOf t)⟩) else none
  | some false => cs[off]?
  | none => none

/-! ### Building -/
def afill (place : Nat → Option (Nat × Nat)) (cells : List Value) : List (Nat × Value) → Option (List Value)
  | [] => some cells
  | (i, v) :: rest =>
    match place i, cellsOfV v with
    | some (off, size), some vs => if vs.length = size ∧ off + vs.length ≤ cells.length then afill place (splice cells off vs) rest else none
    | _, _ => none
def abuild (P : Program) (t : TypeId) (parts : List (Nat × Value)) : Option Value :=
  match zeroOf P t, P.underlying t with
  | some z, some (.struct fs) =>
    if fs.all (fun f => (P.info? f.type).isSome) then (afill (fun i => (fs[i]?).map fun f => (f.offset, P.cellsOf f.type)) z parts).map fun l => .agg ⟨l⟩ else none
  | some z, some (.array _ e) =>
    if (P.info? e).isSome then (afill (fun i => some (i * P.cellsOf e, P.cellsOf e)) z parts).map fun l => .agg ⟨l⟩ else none
  | _, _ => none
def zerosA (z : List Value) (n : Nat) : List Value := (List.replicate n z).flatten

/-! ### Slices -/
def bnd (v : Option Value) (dflt : Nat) (most : Nat) : Option Nat :=
  match v with
  | none => some dflt
  | some (.int _ i) => if 0 ≤ i ∧ i ≤ most then some i.toNat else none
  | some _ => none
/-- one behind all that is told of a block -/
def dangling (a : Addr) : Value := .slice (some ⟨a.block, a.off, some 2⟩) 0 0
/-- one that has no room, and may be somewhere -/
def empty0 : Value := .slice (some ⟨0, 0, some 1⟩) 0 0
/-- one of no elements, of which no more is known -/
def any0 : Value := .slice (some ⟨0, 0, some 0⟩) 0 0
/-- is the block of an address told to its end? -/
def exactAt (h : AH) (i : Nat) : Option Bool := match h.get i with | some (.cells _ _ _ x) => some x | _ => none
def aslice (P : Program) (h : AH) (t : TypeId) (x : Value) (lo hi mx : Option Value) : Option Value :=
  match P.underlying t, x with
  | some (.array n e), .pointer (some a) =>
    match bnd mx n n with
    | some m => match (if hi.isNone && mx.isSome then none else bnd hi n m) with
      | some hh => match bnd lo 0 hh with
        | some l => if (P.info? e).isSome ∧ a.spot = none then some (.slice (some (if m = l then a else a.add (l * P.cellsOf e))) (hh - l) (m - l)) else none
        | none => none
      | none => none
    | none => none
  | some .string, .string s =>
    if mx.isSome then none else
    match bnd hi s.size s.size with
    | some hh => match bnd lo 0 hh with
      | some l => some (.string (s.extract l hh))
      | none => none
    | none => none
  | some (.slice e), .slice none len cap =>
    match bnd mx cap cap with
    | some m => match (if hi.isNone && mx.isSome then none else bnd hi len m) with
      | some hh => match bnd lo 0 hh with
        | some l => if (P.info? e).isSome then some (.slice none (hh - l) (m - l)) else none
        | none => none
      | none => none
    | none => none
  | some (.slice e), .slice (some a) len cap =>
    match bnd mx cap cap with
    | some m => match (if hi.isNone && mx.isSome then none else bnd hi len m) with
      | some hh => match bnd lo 0 hh with
        | some l =>
          if a.spot.isSome then (if (P.info? e).isSome ∧ len = 0 ∧ cap = 0 then some (if mx.isSome then empty0 else any0) else none) else
          if (P.info? e).isSome ∧ hh ≤ m then
            (if m = l then
              if mx.isSome then some empty0 else
              match exactAt h a.block with
              | some true => some empty0
              | some false => some (dangling (a.add (l * P.cellsOf e)))
              | none => none
            else some (.slice (some (a.add (l * P.cellsOf e))) (hh - l) (m - l)))
          else none
        | none => none
      | none => none
    | none => none
  | _, _ => none

/-! ### Comparing -/
def aeqFields (P : Program) (eq : TypeId → Value → Value → Option Bool) (xs ys : List Value) : List Field → Option Bool
  | [] => some true
  | f :: fs =>
    if f.name = "_" then aeqFields P eq xs ys fs else
    match apart P f.type xs f.offset, apart P f.type ys f.offset with
    | some x, some y => match eq f.type x y with
      | some true => aeqFields P eq xs ys fs
      | some false => some false
      | none => none
    | _, _ => none
def aeqElems (P : Program) (eq : TypeId → Value → Value → Option Bool) (e : TypeId) (xs ys : List Value) : List Nat → Option Bool
  | [] => some true
  | i :: is =>
    match apart P e xs (i * P.cellsOf e), apart P e ys (i * P.cellsOf e) with
    | some x, some y => match eq e x y with
      | some true => aeqElems P eq e xs ys is
      | some false => some false
      | none => none
    | _, _ => none
def aeq (P : Program) : Nat → TypeId → Value → Value → Option Bool
  | 0, _, _, _ => none
  | d + 1, t, x, y =>
    match P.underlying t, x, y with
    | some .bool, .bool a, .bool b => some (a == b)
    | some (.int _), .int k a, .int k' b => if k = k' then some (a == b) else none
    | some .string, .string a, .string b => some (a == b)
    | some (.pointer _), .pointer none, .pointer b => some b.isNone
    | some (.pointer _), .pointer (some _), .pointer none => some false
    | some (.interface _), .nilIface, .nilIface => some true
    | some (.interface _), .nilIface, .iface _ _ => some false
    | some (.interface _), .iface _ _, .nilIface => some false
    | some (.struct fs), .agg xs, .agg ys => if P.stoodInHeld t then none else aeqFields P (aeq P d) xs.toList ys.toList fs.toList
    | some (.array n e), .agg xs, .agg ys => if (P.info? e).isSome then aeqElems P (aeq P d) e xs.toList ys.toList (List.range n) else none
    | some (.slice _), .slice none _ _, .slice b _ _ => some b.isNone
    | some (.slice _), .slice (some _) _ _, .slice none _ _ => some false
    | some (.map _ _), .map none, .map b => some b.isNone
    | some (.map _ _), .map (some _), .map none => some false
    | some (.func _ _ _), .nilFunc, .nilFunc => some true
    | some (.func _ _ _), .nilFunc, .func _ _ _ => some false
    | some (.func _ _ _), .func _ _ _, .nilFunc => some false
    | _, _, _ => none
def isConst : Operand → Bool
  | .const _ => true
  | _ => false
/-- what the model asks ahead of '==' -/
def eqAsk (P : Program) (t : TypeId) (x y : Operand) (a b : Value) : Bool :=
  match a, b with
  | .nilIface, .nilIface => isConst x || isConst y
  | .agg _, .agg _ => !P.eqGuardType P.depth t
  | _, _ => true
def acmp (op : BinOp) (x y : Int) : Option Bool :=
  match op with
  | .eql => some (x == y)
  | .neq => some (x != y)
  | .lss => some (decide (x < y))
  | .leq => some (decide (x ≤ y))
  | .gtr => some (decide (x > y))
  | .geq => some (decide (x ≥ y))
  | _ => none
def ashift (op : BinOp) (k : IntKind) (x y : Int) : Option Value :=
  if y < 0 then none else
  match op with
  | .shl => some (.int k (k.wrap (x * 2 ^ (min y.toNat k.bits))))
  | .shr => some (.int k (x.fdiv (2 ^ (min y.toNat k.bits))))
  | _ => none
def aint (op : BinOp) (k : IntKind) (x y : Int) : Option Value :=
  match op with
  | .add => some (.int k (k.wrap (x + y)))
  | .sub => some (.int k (k.wrap (x - y)))
  | .mul => some (.int k (k.wrap (x * y)))
  | .quo => if y = 0 then none else some (.int k (k.wrap (x.tdiv y)))
  | .rem => if y = 0 then none else some (.int k (x.tmod y))
  | .eql | .neq | .lss | .leq | .gtr | .geq => (acmp op x y).map .bool
  | .shl | .shr => ashift op k x y
  | .and => some (.int k (k.wrap (BitVec.ofInt k.bits x &&& BitVec.ofInt k.bits y).toNat))
  | .or => some (.int k (k.wrap (BitVec.ofInt k.bits x ||| BitVec.ofInt k.bits y).toNat))
  | .xor => some (.int k (k.wrap (BitVec.ofInt k.bits x ^^^ BitVec.ofInt k.bits y).toNat))
  | .andNot => some (.int k (k.wrap (BitVec.ofInt k.bits x &&& ~~~ BitVec.ofInt k.bits y).toNat))
def astr (op : BinOp) (x y : ByteArray) : Option Value :=
  match op with
  | .add => if x.size + y.size ≤ 2 ^ 62 then some (.string (x ++ y)) else none
  | .eql => some (.bool (x.toList == y.toList))
  | .neq => some (.bool !(x.toList == y.toList))
  | .lss => some (.bool (Op.bytesLess x.toList y.toList))
  | _ => none
def abin (P : Program) (op : BinOp) (t : TypeId) (x y : Operand) (a b : Value) : Option Value :=
  match a, b with
  | .int k m, .int k' n => if k = k' then aint op k m n else ashift op k m n
  | .string m, .string n => astr op m n
  | a, b =>
    match op with
    | .eql => if eqAsk P t x y a b then (aeq P 10000 t a b).map .bool else none
    | .neq => if eqAsk P t x y a b then (aeq P 10000 t a b).map fun e => .bool !e else none
    | _ => none

/-! ### Operations that make one block, and look at none -/
def aalloc (P : Program) (ev : Operand → Value) : Op → Option (Blk × (Nat → Value))
  | .alloc e => (zeroOf P e).map fun z => (.cells z e (0, 0) true, fun i => .pointer (some ⟨i, 0, none⟩))
  | .box e x => (cellsOfV (ev x)).map fun l => (.cells l e (0, 0) true, fun i => .pointer (some ⟨i, 0, none⟩))
  | .buildSlice t len parts =>
    match P.underlying t with
    | some (.slice e) =>
      match zeroOf P e with
      | some z =>
        if len * P.cellsOf e ≤ 2 ^ 24 then
          (afill (fun i => some (i * P.cellsOf e, P.cellsOf e)) (zerosA z len) (parts.toList.map fun p => (p.1, ev p.2))).map fun l =>
            (.cells l e (0, 0) true, fun i => .slice (some ⟨i, 0, none⟩) len len)
        else none
      | none => none
    | _ => none
  | .makeSlice t l c => match P.underlying t, ev l, ev c with
    | some (.slice e), .int _ l, .int _ c =>
      match zeroOf P e with
      | some z =>
        if 0 ≤ l ∧ l ≤ c ∧ c ≤ 2 ^ 40 ∧ P.bytesOf e * c ≤ 2 ^ 47 then
          some (.cells (zerosA z c.toNat) e (0, 0) true, fun i => .slice (some ⟨i, 0, none⟩) l.toNat c.toNat)
        else none
      | none => none
    | _, _, _ => none
  | .makeMap t r => match r with
    | none => some (.map [] 0, fun i => .map (some i))
    | some x => match P.underlying t, ev x with
      | some (.map _ _), .int _ _ => some (.map [] 0, fun i => .map (some i))
      | _, _ => none
  | _ => none

/-! ### Maps whose keys are integers -/
/-- of a map's type: its elements', where keys are integers -/
def mkey (P : Program) (t : TypeId) : Option TypeId :=
  match P.underlying t with
  | some (.map key elem) => match P.underlying key with
    | some (.int _) => some elem
    | _ => none
  | _ => none
def mfind (k : IntKind) (n : Int) : List (Value × Value × Nat) → Nat → Option (Option (Nat × Value))
  | [], _ => some none
  | (.int j m, v, _) :: es, i => if k = j then (if n = m then some (some (i, v)) else mfind k n es (i + 1)) else none
  | _ :: _, _ => none
def zeroV (P : Program) (t : TypeId) : Option Value := ((P.info? t).bind (·.zero)).bind fun z => if plainV z then some z else none
def mes (h : AH) : Value → Option (List (Value × Value × Nat))
  | .map none => some []
  | .map (some r) => match h.get r with
    | some (.map es _) => some es
    | _ => none
  | _ => none
def alookup (P : Program) (h : AH) (t : TypeId) (x ix : Value) (ok : Bool) : Option Value :=
  match mkey P t, mes h x, ix with
  | some e, some es, .int k n => match mfind k n es 0 with
    | some (some (_, v)) => some (if ok then .tuple ⟨[v, .bool true]⟩ else v)
    | some none => (zeroV P e).map fun z => if ok then .tuple ⟨[z, .bool false]⟩ else z
    | none => none
  | _, _, _ => none
def mput (k : IntKind) (n : Int) (v : Value) (es : List (Value × Value × Nat)) (clock : Nat) : Option Blk :=
  match mfind k n es 0 with
  | some (some (i, _)) => some (.map (es.modify i fun e => (.int k n, v, e.2.2)) clock)
  | some none => some (.map (es ++ [(.int k n, v, clock)]) (clock + 1))
  | none => none
def amapSet (P : Program) (h : AH) (t : TypeId) (m key v : Value) : Option AH :=
  match mkey P t, m, key with
  | some _, .map (some r), .int k n => if r < h.base then none else match h.get r with
    | some (.map es clock) => (mput k n v es clock).map fun o => h.set r (some o)
    | _ => none
  | _, _, _ => none
def amapDel (P : Program) (h : AH) (t : TypeId) (m key : Value) : Option AH :=
  match mkey P t, m, key with
  | some _, .map none, .int _ _ => some h
  | some _, .map (some r), .int k n => if r < h.base then none else match h.get r with
    | some (.map es clock) => match mfind k n es 0 with
      | some (some (i, _)) => some (h.set r (some (.map (es.eraseIdx i) clock)))
      | some none => some (h.set r (some (.map es clock)))
      | none => none
    | _ => none
  | _, _, _ => none
/-! ### Operations that make nothing, and write nothing -/
def byteOf : Value → Option UInt8
  | .int .u8 n => some (UInt8.ofNat n.toNat)
  | _ => none
def bytesOfL : List Value → Option (List UInt8)
  | [] => some []
  | v :: l => match byteOf v, bytesOfL l with
    | some b, some r => some (b :: r)
    | _, _ => none
/-- the text that a slice of bytes is -/
def strOf (h : AH) : Value → Option Value
  | .slice none _ _ => some (.string .empty)
  | .slice (some a) n _ => if n = 0 then some (.string .empty) else ((loadCellsAt h a n).bind bytesOfL).map fun l => .string ⟨⟨l⟩⟩
  | _ => none
def alight (P : Program) (ev : Operand → Value) (h : AH) : Op → Option Value
  | .move x => some (ev x)
  | .assign x => some (ev x)
  | .pick c a b => match ev c with
    | .bool t => some (if t then ev a else ev b)
    | _ => none
  | .build t parts => abuild P t (parts.toList.map fun p => (p.1, ev p.2))
  | .load t a => match ev a with
    | .pointer (some a) => aload P h t a
    | _ => none
  | .nilCheck x => match ev x with
    | .pointer (some a) => some (.pointer (some a))
    | .func (.func f) a b => some (.func (.func f) a b)
    | .func (.yield f) a b => some (.func (.yield f) a b)
    | _ => none
  | .binOp op t x y _ => abin P op t x y (ev x) (ev y)
  | .unOp op _ x => match op, ev x with
    | .neg, .int k n => some (.int k (k.wrap (0 - n)))
    | .not, .bool b => some (.bool !b)
    | _, _ => none
  | .convert s d x => match P.underlying s, P.underlying d, ev x with
    | some _, some (.int k), .int _ n => some (.int k (k.wrap n))
    | some .string, some .string, .string z => some (.string z)
    | some (.slice e), some .string, v => (match P.underlying e with
      | some (.int .u8) => strOf h v
      | _ => none)
    | _, _, _ => none
  | .makeInterface t x => match P.underlying t with
    | some (.interface _) => none
    | some _ => some (.iface t (ev x))
    | none => none
  | .makeFunc fn first captured => match fn with
    | .func f => some (.func (.func f) (first.map ev) (captured.map ev))
    | _ => none
  | .slice t x lo hi mx => aslice P h t (ev x) (lo.map ev) (hi.map ev) (mx.map ev)
  | .fieldAddr s x f => match P.underlying s, ev x with
    | some (.struct fs), .pointer (some a) => match fs[f]? with
      | some fd => if P.cellsOf fd.type = 0 then none else some (.pointer (some (a.add fd.offset)))
      | none => none
    | _, _ => none
  | .field t x f => match P.underlying t, ev x with
    | some (.struct fs), .agg cs => match fs[f]? with
      | some fd => apart P fd.type cs.toList fd.offset
      | none => none
    | _, _ => none
  | .indexAddr t x i => match P.underlying t, ev x, ev i with
    | some (.array n e), .pointer (some a), .int _ i => if 0 ≤ i ∧ i < n ∧ (P.info? e).isSome then some (.pointer (some (a.add (i.toNat * P.cellsOf e)))) else none
    | some (.slice e), .slice (some a) n _, .int _ i => if 0 ≤ i ∧ i < n ∧ (P.info? e).isSome ∧ a.spot = none then some (.pointer (some (a.add (i.toNat * P.cellsOf e)))) else none
    | _, _, _ => none
  | .index t x i => match P.underlying t, ev x, ev i with
    | some (.array n e), .agg cs, .int _ i => if 0 ≤ i ∧ i < n ∧ (P.info? e).isSome then apart P e cs.toList (i.toNat * P.cellsOf e) else none
    | some .string, .string s, .int _ i => if 0 ≤ i then (s[i.toNat]?).map fun b => .int .u8 b.toNat else none
    | _, _, _ => none
  | .extract t i => match ev t with
    | .tuple vs => vs.toList[i]?
    | _ => none
  | .lookup t x ix ok => alookup P h t (ev x) (ev ix) ok
  | _ => none

inductive Kind where
  | light | alloc | store | call | other
  deriving DecidableEq
def kindOf : Op → Kind
  | .move _ | .assign _ | .pick .. | .build .. | .load .. | .nilCheck _ | .binOp .. | .unOp .. | .convert .. | .makeInterface .. | .makeFunc .. | .slice .. | .fieldAddr ..
  | .field .. | .indexAddr .. | .index .. | .extract .. | .lookup .. => .light
  | .alloc _ | .box .. | .buildSlice .. | .makeSlice .. | .makeMap .. => .alloc
  | .store .. | .mapUpdate .. => .store
  | .call _ => .call
  | _ => .other

/-! ### The builtins -/
def srcCells (h : AH) (size n : Nat) : Value → Option (List Value)
  | .slice none _ _ => if n = 0 then some [] else none
  | .slice (some a) l _ => if n = 0 then some [] else if n ≤ l then loadCellsAt h a (n * size) else none
  | .string s => if n ≤ s.size then some ((s.extract 0 n).data.toList.map fun b => .int .u8 b.toNat) else none
  | _ => none
def lenOfV : Value → Option Nat
  | .slice _ n _ => some n
  | .string s => some s.size
  | _ => none
def srcKind (P : Program) (argTypes : Array TypeId) : Bool :=
  match (argTypes[1]?).bind P.underlying with
  | some (.slice _) | some .string => true
  | _ => false
def aappend (P : Program) (h : AH) (argTypes : Array TypeId) (s x : Value) : Option (Value × AH) :=
  match (argTypes[0]?).bind P.underlying, s, lenOfV x with
  | some (.slice e), .slice base sLen sCap, some n =>
    if !srcKind P argTypes then none else
    match zeroOf P e, srcCells h (P.cellsOf e) n x with
    | some _, some new =>
      if !new.all cellB || new.length != n * P.cellsOf e then none else
      if sLen + n ≤ sCap then
        match base with
        | none => if n = 0 then some (s, h) else none
        | some a => if n = 0 then some (s, h) else if a.spot.isSome then none else
          (storeCellsAt h (a.add (sLen * P.cellsOf e)) new).map fun h' => (.slice base (sLen + n) sCap, h')
      else if (sLen + n) * (P.bytesOf e + 1) ≤ 2 ^ 46 then
        match base with
        | none => if sLen = 0 then some (.slice (some ⟨h.next, 0, none⟩) n n, h.alloc (.cells new e (0, 0) false)) else none
        | some a =>
          if a.spot = some 1 then (if sLen = 0 then some (.slice (some ⟨h.next, 0, none⟩) n n, h.alloc (.cells new e (0, 0) false)) else none) else
          if a.spot = some 2 then
            (match h.get a.block with
            | some (.cells c e' fz _) =>
              if e' = e ∧ h.base ≤ a.block ∧ fz = (0, 0) ∧ a.off ≤ c.length ∧ sLen = 0 ∧ sCap = 0 then
                some (.slice (some ⟨h.next, 0, none⟩) n n, (h.set a.block none).alloc (.cells new e (0, 0) false))
              else none
            | _ => none) else
          match loadCellsAt h a (sLen * P.cellsOf e), h.get a.block with
          | some old, some (.cells c e' fz x) =>
            if !old.all cellB then none else
            if x then some (.slice (some ⟨h.next, 0, none⟩) (sLen + n) (sLen + n), h.alloc (.cells (old ++ new) e (0, 0) false))
            else if e' = e ∧ h.base ≤ a.block ∧ fz = (0, 0) ∧ a.off + sCap * P.cellsOf e ≤ c.length then
              some (.slice (some ⟨h.next, 0, none⟩) (sLen + n) (sLen + n), (h.set a.block none).alloc (.cells (old ++ new) e (0, 0) false))
            else none
          | _, _ => none
      else none
    | _, _ => none
  | _, _, _ => none
def abuiltin (P : Program) (h : AH) (b : Builtin) (argTypes : Array TypeId) (args : List Value) : Option (Value × AH) :=
  match b, args with
  | .len, [x] => match (argTypes[0]?).bind P.underlying, x with
    | some .string, .string s => some (.int .i64 s.size, h)
    | some (.array n _), _ => some (.int .i64 n, h)
    | some (.pointer e), _ => match P.underlying e with
      | some (.array n _) => some (.int .i64 n, h)
      | _ => none
    | some (.slice _), .slice _ n _ => some (.int .i64 n, h)
    | some (.map _ _), x => (mes h x).map fun es => (.int .i64 es.length, h)
    | _, _ => none
  | .append, [s, x] => aappend P h argTypes s x
  | .copy, [d, x] => match (argTypes[0]?).bind P.underlying, d, lenOfV x with
    | some (.slice e), .slice base dLen _, some m =>
      if (P.info? e).isNone then none else
      match srcCells h (P.cellsOf e) (Nat.min m dLen) x with
      | some new => match base with
        | none => some (.int .i64 (Nat.min m dLen : Nat), h)
        | some a => if Nat.min m dLen = 0 then some (.int .i64 0, h) else (storeCellsAt h a new).map fun h' => (.int .i64 (Nat.min m dLen : Nat), h')
      | none => none
    | _, _, _ => none
  | .clear, [x] => match (argTypes[0]?).bind P.underlying, x with
    | some _, .slice none _ _ => some (.tuple #[], h)
    | some (.slice e), .slice (some a) n _ =>
      if n = 0 then some (.tuple #[], h) else
      match zeroOf P e with
      | some z => (storeCellsAt h a (zerosA z n)).map fun h' => (.tuple #[], h')
      | none => none
    | _, _ => none
  | .delete, [m, k] => match argTypes[0]? with
    | some t => (amapDel P h t m k).map fun h' => (.tuple #[], h')
    | none => none
  | .min, [.int k x, .int _ y] => some (.int k (if y < x then y else x), h)
  | .max, [.int k x, .int _ y] => some (.int k (if y > x then y else x), h)
  | _, _ => none

end
end Go.Ab
end
section
namespace Go.Ab
open Go.RowKit

def Ext (ρ ρ' : Rho) : Prop := ∀ i x, ρ i = some x → ρ' i = some x
theorem Ext.refl (ρ : Rho) : Ext ρ ρ := fun _ _ h => h
theorem Ext.trans {a b c : Rho} (h : Ext a b) (k : Ext b c) : Ext a c := fun i x hx => k i x (h i x hx)

theorem FRel.mono {ρ ρ' : Rho} (h : Ext ρ ρ') {f g : Fn} (k : FRel ρ f g) : FRel ρ' f g := by
  cases f <;> simp only [FRel] at k ⊢ <;> try exact k
  obtain ⟨b, s, hb, hg⟩ := k
  exact ⟨b, s, h _ _ hb, hg⟩

mutual
theorem VRel.mono {ρ ρ' : Rho} (h : Ext ρ ρ') : ∀ (v v' : Value), VRel ρ v v' → VRel ρ' v v'
  | .bool _, _, k => by simp only [VRel] at k ⊢; exact k
  | .int _ _, _, k => by simp only [VRel] at k ⊢; exact k
  | .float _ _, _, k => by simp only [VRel] at k ⊢; exact k
  | .complex _ _ _, _, k => by simp only [VRel] at k ⊢; exact k
  | .string _, _, k => by simp only [VRel] at k ⊢; exact k
  | .pointer none, _, k => by simp only [VRel] at k ⊢; exact k
  | .pointer (some _), _, k => by simp only [VRel] at k ⊢; obtain ⟨b, s, hb, hv⟩ := k; exact ⟨b, s, h _ _ hb, hv⟩
  | .slice none _ _, _, k => by simp only [VRel] at k ⊢; exact k
  | .slice (some ⟨_, _, some _⟩) _ _, _, k => by
    simp only [VRel] at k ⊢
    obtain ⟨h1, h2, a', c', h3, h4, h5⟩ := k
    exact ⟨h1, h2, a', c', h3, fun hx => let ⟨b, s, hb, hv⟩ := h4 hx; ⟨b, s, h _ _ hb, hv⟩, h5⟩
  | .slice (some ⟨_, _, none⟩) _ _, _, k => by simp only [VRel] at k ⊢; obtain ⟨b, s, c', hb, hv⟩ := k; exact ⟨b, s, c', h _ _ hb, hv⟩
  | .map none, _, k => by simp only [VRel] at k ⊢; exact k
  | .map (some _), _, k => by simp only [VRel] at k ⊢; obtain ⟨b, s, hb, hv⟩ := k; exact ⟨b, s, h _ _ hb, hv⟩
  | .chan none, _, _ => by simp only [VRel]
  | .chan (some _), _, k => by simp only [VRel] at k
  | .func _ fs cs, _, k => by
    simp only [VRel] at k ⊢
    obtain ⟨fn', fs', cs', h1, h2, h3, hv⟩ := k
    exact ⟨fn', fs', cs', h1.mono h, ARel.mono h fs fs' h2, ARel.mono h cs cs' h3, hv⟩
  | .nilFunc, _, k => by simp only [VRel] at k ⊢; exact k
  | .iface _ v, _, k => by simp only [VRel] at k ⊢; obtain ⟨u, hu, hv⟩ := k; exact ⟨u, VRel.mono h v u hu, hv⟩
  | .nilIface, _, k => by simp only [VRel] at k ⊢; exact k
  | .agg cs, _, k => by simp only [VRel] at k ⊢; obtain ⟨cs', hc, hv⟩ := k; exact ⟨cs', ARel.mono h cs cs' hc, hv⟩
  | .tuple cs, _, k => by simp only [VRel] at k ⊢; obtain ⟨cs', hc, hv⟩ := k; exact ⟨cs', ARel.mono h cs cs' hc, hv⟩
theorem ARel.mono {ρ ρ' : Rho} (h : Ext ρ ρ') : ∀ (v v' : Array Value), ARel ρ v v' → ARel ρ' v v'
  | ⟨l⟩, a, k => by simp only [ARel] at k ⊢; exact LRel.mono h l a.toList k
theorem LRel.mono {ρ ρ' : Rho} (h : Ext ρ ρ') : ∀ (l l' : List Value), LRel ρ l l' → LRel ρ' l l'
  | [], _, k => by simp only [LRel] at k ⊢; exact k
  | v :: l, _, k => by
    simp only [LRel] at k ⊢
    obtain ⟨v', t', h1, h2, h3⟩ := k
    exact ⟨v', t', VRel.mono h v v' h1, LRel.mono h l t' h2, h3⟩
end

mutual
theorem plainV_rel {ρ : Rho} : ∀ (v : Value), plainV v = true → VRel ρ v v
  | .bool _, _ => by simp only [VRel]
  | .int _ _, _ => by simp only [VRel]
  | .float _ _, h => by simp [plainV] at h
  | .complex _ _ _, h => by simp [plainV] at h
  | .string _, _ => by simp only [VRel]
  | .pointer none, _ => by simp only [VRel]
  | .pointer (some _), h => by simp [plainV] at h
  | .slice none _ _, _ => by simp only [VRel]
  | .slice (some _) _ _, h => by simp [plainV] at h
  | .map none, _ => by simp only [VRel]
  | .map (some _), h => by simp [plainV] at h
  | .chan _, h => by simp [plainV] at h
  | .func _ _ _, h => by simp [plainV] at h
  | .nilFunc, _ => by simp only [VRel]
  | .iface _ v, h => by simp only [VRel]; simp only [plainV] at h; exact ⟨v, plainV_rel v h, rfl⟩
  | .nilIface, _ => by simp only [VRel]
  | .agg cs, h => by simp only [VRel]; simp only [plainV] at h; exact ⟨cs, plainA_rel cs h, rfl⟩
  | .tuple cs, h => by simp only [VRel]; simp only [plainV] at h; exact ⟨cs, plainA_rel cs h, rfl⟩
theorem plainA_rel {ρ : Rho} : ∀ (v : Array Value), plainA v = true → ARel ρ v v
  | ⟨l⟩, h => by simp only [plainA] at h; simp only [ARel]; exact plainL_rel l h
theorem plainL_rel {ρ : Rho} : ∀ (l : List Value), plainL l = true → LRel ρ l l
  | [], _ => by simp only [LRel]
  | v :: l, h => by
    simp only [plainL, Bool.and_eq_true] at h
    simp only [LRel]
    exact ⟨v, l, plainV_rel v h.1, plainL_rel l h.2, rfl⟩
end

theorem ARel_iff {ρ : Rho} {a b : Array Value} : ARel ρ a b ↔ LRel ρ a.toList b.toList := by cases a; simp only [ARel]

section lists
variable {ρ : Rho}
theorem LRel.nil : LRel ρ [] [] := by simp only [LRel]
theorem LRel.cons {v v' : Value} {l l' : List Value} (h : VRel ρ v v') (k : LRel ρ l l') : LRel ρ (v :: l) (v' :: l') := by
  simp only [LRel]; exact ⟨v', l', h, k, rfl⟩
theorem LRel.cons_iff {v v' : Value} {l l' : List Value} : LRel ρ (v :: l) (v' :: l') ↔ VRel ρ v v' ∧ LRel ρ l l' := by
  constructor
  · intro h
    simp only [LRel] at h
    obtain ⟨a, b, h1, h2, h3⟩ := h
    cases h3
    exact ⟨h1, h2⟩
  · exact fun h => LRel.cons h.1 h.2
theorem LRel.length : ∀ {l l' : List Value}, LRel ρ l l' → l'.length = l.length
  | [], l', h => by simp only [LRel] at h; simp [h]
  | v :: l, l', h => by
    simp only [LRel] at h
    obtain ⟨v', t', _, h2, rfl⟩ := h
    simp [LRel.length h2]
theorem LRel.get : ∀ {l l' : List Value} {i : Nat} {v : Value}, LRel ρ l l' → l[i]? = some v → ∃ v', l'[i]? = some v' ∧ VRel ρ v v'
  | [], l', i, v, h, k => by simp at k
  | u :: l, l', 0, v, h, k => by
    simp only [LRel] at h
    obtain ⟨v', t', h1, _, rfl⟩ := h
    simp at k; subst k
    exact ⟨v', rfl, h1⟩
  | u :: l, l', i + 1, v, h, k => by
    simp only [LRel] at h
    obtain ⟨v', t', _, h2, rfl⟩ := h
    simp at k
    simpa using LRel.get h2 k
theorem LRel.get_none {l l' : List Value} {i : Nat} (h : LRel ρ l l') (k : l[i]? = none) : l'[i]? = none := by
  rw [List.getElem?_eq_none_iff] at k ⊢
  rw [h.length]; exact k
theorem LRel.getD {l l' : List Value} (i : Nat) (h : LRel ρ l l') : VRel ρ (l.getD i undef) (l'.getD i undef) := by
  cases k : l[i]? with
  | none =>
    have k' := h.get_none k
    rw [List.getD_eq_getElem?_getD, List.getD_eq_getElem?_getD, k, k']
    exact plainV_rel undef (by simp [undef, plainV, plainA, plainL])
  | some v =>
    obtain ⟨v', hv, hr⟩ := h.get k
    rw [List.getD_eq_getElem?_getD, List.getD_eq_getElem?_getD, k, hv]
    exact hr
theorem LRel.append : ∀ {l l' m m' : List Value}, LRel ρ l l' → LRel ρ m m' → LRel ρ (l ++ m) (l' ++ m')
  | [], l', m, m', h, k => by simp only [LRel] at h; subst h; exact k
  | v :: l, l', m, m', h, k => by
    simp only [LRel] at h
    obtain ⟨v', t', h1, h2, rfl⟩ := h
    exact LRel.cons h1 (LRel.append h2 k)
theorem LRel.take : ∀ {l l' : List Value} (n : Nat), LRel ρ l l' → LRel ρ (l.take n) (l'.take n)
  | _, _, 0, _ => by simp [LRel.nil]
  | [], l', n + 1, h => by simp only [LRel] at h; subst h; exact LRel.nil
  | v :: l, l', n + 1, h => by
    simp only [LRel] at h
    obtain ⟨v', t', h1, h2, rfl⟩ := h
    exact LRel.cons h1 (LRel.take n h2)
theorem LRel.drop : ∀ {l l' : List Value} (n : Nat), LRel ρ l l' → LRel ρ (l.drop n) (l'.drop n)
  | _, _, 0, h => by simpa using h
  | [], l', n + 1, h => by simp only [LRel] at h; subst h; exact LRel.nil
  | v :: l, l', n + 1, h => by
    simp only [LRel] at h
    obtain ⟨v', t', h1, h2, rfl⟩ := h
    exact LRel.drop n h2
theorem LRel.set : ∀ {l l' : List Value} (i : Nat) {v v' : Value}, LRel ρ l l' → VRel ρ v v' → LRel ρ (l.set i v) (l'.set i v')
  | [], l', i, v, v', h, k => by simp only [LRel] at h; subst h; exact LRel.nil
  | u :: l, l', 0, v, v', h, k => by
    simp only [LRel] at h
    obtain ⟨w', t', h1, h2, rfl⟩ := h
    exact LRel.cons k h2
  | u :: l, l', i + 1, v, v', h, k => by
    simp only [LRel] at h
    obtain ⟨w', t', h1, h2, rfl⟩ := h
    exact LRel.cons h1 (LRel.set i h2 k)
theorem LRel.splice {l l' m m' : List Value} (i : Nat) (h : LRel ρ l l') (k : LRel ρ m m') : LRel ρ (splice l i m) (splice l' i m') := by
  unfold Ab.splice
  rw [k.length]
  exact ((h.take i).append k).append (h.drop _)
theorem LRel.replicate {v v' : Value} (n : Nat) (h : VRel ρ v v') : LRel ρ (List.replicate n v) (List.replicate n v') := by
  induction n with
  | zero => exact LRel.nil
  | succ n ih => exact LRel.cons h ih
theorem LRel.map_ev {α : Type} {f g : α → Value} (h : ∀ x, VRel ρ (f x) (g x)) : ∀ l : List α, LRel ρ (l.map f) (l.map g)
  | [] => LRel.nil
  | x :: l => LRel.cons (h x) (LRel.map_ev h l)
end lists

/-! ### What is known of a value -/
section vals
variable {ρ : Rho}
theorem VRel.cells {v v' : Value} (h : VRel ρ v v') (ht : isTop v = false) : LRel ρ v.cells.toList v'.cells.toList := by
  cases v with
  | agg cs => simp only [VRel] at h; obtain ⟨cs', hc, rfl⟩ := h; exact ARel_iff.1 hc
  | chan r => simp [isTop] at ht
  | pointer a =>
    have h0 := h
    cases a with
    | none => simp only [VRel] at h; subst h; exact LRel.cons h0 LRel.nil
    | some a => simp only [VRel] at h; obtain ⟨b, s, hb, rfl⟩ := h; exact LRel.cons h0 LRel.nil
  | slice a l c =>
    have h0 := h
    cases a with
    | none => simp only [VRel] at h; subst h; exact LRel.cons h0 LRel.nil
    | some a =>
      obtain ⟨i, o, sp⟩ := a
      cases sp with
      | none => simp only [VRel] at h; obtain ⟨b, s, c', hb, _, _, rfl⟩ := h; exact LRel.cons h0 LRel.nil
      | some _ => simp only [VRel] at h; obtain ⟨_, _, a', c', _, _, rfl⟩ := h; exact LRel.cons h0 LRel.nil
  | map r =>
    have h0 := h
    cases r with
    | none => simp only [VRel] at h; subst h; exact LRel.cons h0 LRel.nil
    | some a => simp only [VRel] at h; obtain ⟨b, s, hb, rfl⟩ := h; exact LRel.cons h0 LRel.nil
  | func fn a b => have h0 := h; simp only [VRel] at h; obtain ⟨_, _, _, _, _, _, rfl⟩ := h; exact LRel.cons h0 LRel.nil
  | iface t v => have h0 := h; simp only [VRel] at h; obtain ⟨_, _, rfl⟩ := h; exact LRel.cons h0 LRel.nil
  | tuple t => have h0 := h; simp only [VRel] at h; obtain ⟨_, _, rfl⟩ := h; exact LRel.cons h0 LRel.nil
  | _ => have h0 := h; simp only [VRel] at h; subst h; exact LRel.cons h0 LRel.nil
theorem VRel.oneCell {v v' : Value} (h : VRel ρ v v') (hc : cellB v = true) : v'.oneCell' = true := by
  cases v with
  | agg cs => simp [cellB] at hc
  | chan r => simp [cellB] at hc
  | tuple t => simp [cellB] at hc
  | pointer a => cases a with
    | none => simp only [VRel] at h; subst h; rfl
    | some a => simp only [VRel] at h; obtain ⟨b, s, hb, rfl⟩ := h; rfl
  | slice a l c => cases a with
    | none => simp only [VRel] at h; subst h; rfl
    | some a =>
      obtain ⟨i, o, sp⟩ := a
      cases sp with
      | none => simp only [VRel] at h; obtain ⟨b, s, c', hb, _, _, rfl⟩ := h; rfl
      | some _ => simp only [VRel] at h; obtain ⟨_, _, a', c', _, _, rfl⟩ := h; rfl
  | map r => cases r with
    | none => simp only [VRel] at h; subst h; rfl
    | some a => simp only [VRel] at h; obtain ⟨b, s, hb, rfl⟩ := h; rfl
  | func fn a b => simp only [VRel] at h; obtain ⟨_, _, _, _, _, _, rfl⟩ := h; rfl
  | iface t v => simp only [VRel] at h; obtain ⟨_, _, rfl⟩ := h; rfl
  | _ => simp only [VRel] at h; subst h; rfl
end vals

/-! ### Blocks, heaps -/
def ERel (ρ : Rho) : List (Value × Value × Nat) → List MapEntry → Prop
  | [], es => es = []
  | (k, v, n) :: l, es => ∃ k' v' t, VRel ρ k k' ∧ VRel ρ v v' ∧ ERel ρ l t ∧ es = { key := k', val := v', born := n } :: t
theorem ERel.mono {ρ ρ' : Rho} (h : Ext ρ ρ') : ∀ (l : List (Value × Value × Nat)) (es : List MapEntry), ERel ρ l es → ERel ρ' l es
  | [], _, k => k
  | (_, _, _) :: l, _, ⟨k', v', t, h1, h2, h3, h4⟩ => ⟨k', v', t, VRel.mono h _ _ h1, VRel.mono h _ _ h2, ERel.mono h l t h3, h4⟩

def BRel (P : Program) (ρ : Rho) (s : Nat × Nat) : Blk → Obj → Prop
  | .cells c e fz x, o => ∃ c' : Array Value, o = .cells c' e fz ∧ LRel ρ c ((c'.toList.drop s.2).take c.length) ∧ s.2 + c.length + s.1 * P.cellsOf e ≤ c'.size ∧ (x = true → s.1 = 0 ∧ s.2 = 0)
  | .loop st pend fn tmps params assign body d, o => ∃ tmps' d' s', LRel ρ tmps tmps' ∧ ρ d = some (d', s') ∧
      o = .loop { state := st, pending := pend, fn := fn, tmps := ⟨tmps'⟩, params := params, assign := assign, body := body, defers := d' }
  | .marks here, o => o = .deferred (if here then some [] else none)
  | .map es clock, o => ∃ es', ERel ρ es es' ∧ o = .map ⟨es'⟩ clock
  | .mapIter m since seen last, o => ∃ m', (match m with | none => m' = none | some r => ∃ b s, ρ r = some (b, s) ∧ m' = some b) ∧ o = .mapIter m' since ⟨seen⟩ last
  | .strIter s pos, o => o = .stringIter s pos
theorem BRel.mono {P : Program} {ρ ρ' : Rho} (h : Ext ρ ρ') {s : Nat × Nat} {b : Blk} {o : Obj} (k : BRel P ρ s b o) : BRel P ρ' s b o := by
  cases b with
  | cells c e fz x => obtain ⟨c', h1, h2, h3⟩ := k; exact ⟨c', h1, LRel.mono h _ _ h2, h3⟩
  | loop st pend fn tmps params assign body d => obtain ⟨t', d', s', h1, h2, h3⟩ := k; exact ⟨t', d', s', LRel.mono h _ _ h1, h _ _ h2, h3⟩
  | marks _ => exact k
  | map es c => obtain ⟨es', h1, h2⟩ := k; exact ⟨es', ERel.mono h _ _ h1, h2⟩
  | mapIter m _ _ _ =>
    obtain ⟨m', h1, h2⟩ := k
    refine ⟨m', ?_, h2⟩
    cases m with
    | none => exact h1
    | some r => obtain ⟨b, s, hb, hm⟩ := h1; exact ⟨b, s, h _ _ hb, hm⟩
  | strIter s p => exact k

/-- The abstract heap stands for the world. A block without a number in 'ρ' is not there yet. -/
structure Inv (P : Program) (B : Nat) (ρ : Rho) (h : AH) (w : World) : Prop where
  blk : ∀ i o, h.get i = some o → ∀ b s, ρ i = some (b, s) → ∃ o', w.heap[b]? = some o' ∧ BRel P ρ s o o'
  inj : ∀ i j b si sj, h.base ≤ i → h.base ≤ j → (h.get i).isSome → (h.get j).isSome → ρ i = some (b, si) → ρ j = some (b, sj) → i = j
  low : ∀ i b s, h.base ≤ i → (h.get i).isSome → ρ i = some (b, s) → B ≤ b
  old : ∀ i b s, i < h.base → ρ i = some (b, s) → b < B
  fresh : ∀ i, h.next ≤ i → ρ i = none
  freshG : ∀ i, h.next ≤ i → h.get i = none
  glob : ∀ g, g < P.globals.size → ρ g = some (g, (0, 0))
  size : B ≤ w.heap.size
  bn : h.base ≤ h.next

/-- From one to the next. -/
structure Evo (P : Program) (B : Nat) (ρ : Rho) (h : AH) (w : World) (ρ' : Rho) (h' : AH) (w' : World) : Prop where
  ext : Ext ρ ρ'
  inv : Inv P B ρ' h' w'
  un : ∀ i, i < h.next → ρ i = none → ρ' i = none
  keepU : ∀ i, i < h.next → ρ i = none → h'.get i = h.get i
  stay : ∀ i, i < h.next → h.get i = none → h'.get i = none
  frame : ∀ b, b < w.heap.size → (∀ i s, h.base ≤ i → (h.get i).isSome → ρ i ≠ some (b, s)) → w'.heap[b]? = w.heap[b]?
  range : ∀ i b s, h.base ≤ i → (h'.get i).isSome → ρ' i = some (b, s) → b < w.heap.size → ∃ j s', h.base ≤ j ∧ (h.get j).isSome ∧ ρ j = some (b, s')
  base : h'.base = h.base
  oldG : ∀ i, i < h.base → h'.get i = h.get i
  next : h.next ≤ h'.next
  size : w.heap.size ≤ w'.heap.size
  os : w'.os = w.os
  out : w'.output = w.output
  tape : w'.tape = w.tape

theorem Evo.refl {P : Program} {B : Nat} {ρ : Rho} {h : AH} {w : World} (hi : Inv P B ρ h w) : Evo P B ρ h w ρ h w where
  ext := Ext.refl ρ
  inv := hi
  un := fun _ _ h => h
  keepU := fun _ _ _ => rfl
  stay := fun _ _ hn => hn
  frame := fun _ _ _ => rfl
  range := fun i _ s h1 h2 h3 _ => ⟨i, s, h1, h2, h3⟩
  base := rfl
  oldG := fun _ _ => rfl
  next := Nat.le_refl _
  size := Nat.le_refl _
  os := rfl
  out := rfl
  tape := rfl

theorem Evo.trans {P : Program} {B : Nat} {ρ ρ1 ρ2 : Rho} {h h1 h2 : AH} {w w1 w2 : World} (a : Evo P B ρ h w ρ1 h1 w1) (b : Evo P B ρ1 h1 w1 ρ2 h2 w2) : Evo P B ρ h w ρ2 h2 w2 where
  ext := a.ext.trans b.ext
  inv := b.inv
  un := fun i hi hn => b.un i (Nat.lt_of_lt_of_le hi a.next) (a.un i hi hn)
  keepU := fun i hi hn => (b.keepU i (Nat.lt_of_lt_of_le hi a.next) (a.un i hi hn)).trans (a.keepU i hi hn)
  stay := fun i hi hn => b.stay i (Nat.lt_of_lt_of_le hi a.next) (a.stay i hi hn)
  frame := fun x hx hn => by
    refine (b.frame x (Nat.lt_of_lt_of_le hx a.size) ?_).trans (a.frame x hx hn)
    intro i s hb hl he
    rw [a.base] at hb
    obtain ⟨j, s', hj1, hj2, hj3⟩ := a.range i x s hb hl he hx
    exact hn j s' hj1 hj2 hj3
  range := fun i x s hb hl he hx => by
    obtain ⟨j, s', hj1, hj2, hj3⟩ := b.range i x s (by rw [a.base]; exact hb) hl he (Nat.lt_of_lt_of_le hx a.size)
    rw [a.base] at hj1
    exact a.range j x s' hj1 hj2 hj3 hx
  base := b.base.trans a.base
  oldG := fun i hi => (b.oldG i (by rw [a.base]; exact hi)).trans (a.oldG i hi)
  next := Nat.le_trans a.next b.next
  size := Nat.le_trans a.size b.size
  os := b.os.trans a.os
  out := b.out.trans a.out
  tape := b.tape.trans a.tape

theorem Evo.below {P : Program} {B : Nat} {ρ ρ' : Rho} {h h' : AH} {w w' : World} (hi : Inv P B ρ h w) (e : Evo P B ρ h w ρ' h' w') : Below B w w' :=
  ⟨e.os, e.tape, e.out, e.size, fun k hk => e.frame k (Nat.lt_of_lt_of_le hk hi.size) fun i s hb hl he => absurd (hi.low i k s hb hl he) (Nat.not_le.2 hk)⟩

end Go.Ab
end
section
namespace Go.Ab
open Go.RowKit
variable {P : Program} {B : Nat} {ρ : Rho} {h : AH} {w : World}

def upd (ρ : Rho) (i : Nat) (x : Nat × (Nat × Nat)) : Rho := fun j => if j = i then some x else ρ j
theorem upd_same {i : Nat} {x : Nat × (Nat × Nat)} : upd ρ i x i = some x := by simp [upd]
theorem upd_other {i j : Nat} {x : Nat × (Nat × Nat)} (h : j ≠ i) : upd ρ i x j = ρ j := by simp [upd, h]
theorem Ext.upd {i : Nat} {x : Nat × (Nat × Nat)} (h : ρ i = none) : Ext ρ (upd ρ i x) := by
  intro j y hy
  by_cases e : j = i
  · subst e; rw [h] at hy; cases hy
  · rw [upd_other e]; exact hy

/-- A new block. -/
theorem evo_alloc (hi : Inv P B ρ h w) {o : Blk} {o' : Obj} {s : Nat × Nat} {w' : World} (hb : BRel P (upd ρ h.next (w.heap.size, s)) s o o')
    (hheap : w'.heap = w.heap.push o') (hos : w'.os = w.os) (hout : w'.output = w.output) (htape : w'.tape = w.tape) :
    Evo P B ρ h w (upd ρ h.next (w.heap.size, s)) (h.alloc o) w' := by
  have hext : Ext ρ (upd ρ h.next (w.heap.size, s)) := Ext.upd (hi.fresh _ (Nat.le_refl _))
  have hget : ∀ j, (h.alloc o).get j = if j = h.next then some o else h.get j := fun j => AH.get_alloc hi.bn
  have hlt : ∀ i b s', ρ i = some (b, s') → i < h.next := fun i b s' hr => by
    rcases Nat.lt_or_ge i h.next with h1 | h1
    · exact h1
    · rw [hi.fresh i h1] at hr; cases hr
  refine { ext := hext, inv := ?_, un := ?_, keepU := ?_, stay := fun j hj hn => by rw [hget, if_neg (by omega)]; exact hn, frame := ?_, range := ?_, base := rfl, oldG := ?_, next := by simp, size := by rw [hheap]; simp, os := hos, out := hout, tape := htape }
  · refine { blk := ?_, inj := ?_, low := ?_, old := ?_, fresh := ?_, freshG := ?_, glob := ?_, size := by rw [hheap]; simp; exact Nat.le_succ_of_le hi.size, bn := Nat.le_succ_of_le hi.bn }
    · intro i o1 hg b s1 hr
      rw [hget] at hg
      by_cases e : i = h.next
      · subst e
        rw [if_pos rfl] at hg; cases hg
        rw [upd_same] at hr; cases hr
        exact ⟨o', by rw [hheap]; simp, hb⟩
      · rw [if_neg e] at hg
        rw [upd_other e] at hr
        obtain ⟨o2, h2, h3⟩ := hi.blk i o1 hg b s1 hr
        refine ⟨o2, ?_, h3.mono hext⟩
        rw [hheap, Array.getElem?_push]
        have := (Array.getElem?_eq_some_iff.1 h2).1
        rw [if_neg (by omega)]; exact h2
    · intro i j b si sj hbi hbj gi gj ri rj
      rw [hget] at gi gj
      by_cases e : i = h.next
      · by_cases e' : j = h.next
        · rw [e, e']
        · rw [if_neg e'] at gj
          rw [upd_other e'] at rj
          obtain ⟨oj, hoj⟩ := Option.isSome_iff_exists.1 gj
          obtain ⟨o2, h2, _⟩ := hi.blk j oj hoj b sj rj
          subst e
          rw [upd_same] at ri; cases ri
          have := (Array.getElem?_eq_some_iff.1 h2).1
          omega
      · rw [if_neg e] at gi
        rw [upd_other e] at ri
        by_cases e' : j = h.next
        · obtain ⟨oi, hoi⟩ := Option.isSome_iff_exists.1 gi
          obtain ⟨o2, h2, _⟩ := hi.blk i oi hoi b si ri
          subst e'
          rw [upd_same] at rj; cases rj
          have := (Array.getElem?_eq_some_iff.1 h2).1
          omega
        · rw [if_neg e'] at gj
          rw [upd_other e'] at rj
          exact hi.inj i j b si sj hbi hbj gi gj ri rj
    · intro i b s1 hbi gi ri
      rw [hget] at gi
      by_cases e : i = h.next
      · subst e; rw [upd_same] at ri; cases ri; exact hi.size
      · rw [if_neg e] at gi; rw [upd_other e] at ri
        exact hi.low i b s1 hbi gi ri
    · intro i b s1 hbi ri
      have e : i ≠ h.next := fun e => by have := hi.bn; simp at hbi; omega
      rw [upd_other e] at ri
      exact hi.old i b s1 hbi ri
    · intro i hn
      simp at hn
      rw [upd_other (by omega)]
      exact hi.fresh i (by omega)
    · intro i hn
      simp at hn
      rw [hget, if_neg (by omega)]
      exact hi.freshG i (by omega)
    · intro g hg
      have := hi.glob g hg
      exact hext _ _ this
  · intro i hn hr
    rw [upd_other (by omega)]; exact hr
  · intro i hn hr
    rw [hget, if_neg (by omega)]
  · intro b hb' _
    rw [hheap, Array.getElem?_push, if_neg (by omega)]
  · intro i b s1 hbi gi ri hlt'
    rw [hget] at gi
    by_cases e : i = h.next
    · subst e; rw [upd_same] at ri; cases ri; omega
    · rw [if_neg e] at gi; rw [upd_other e] at ri
      exact ⟨i, s1, hbi, gi, ri⟩
  · intro i hn
    rw [hget, if_neg (by have := hi.bn; omega)]

/-- A block that is written. -/
theorem evo_set (hi : Inv P B ρ h w) {i b : Nat} {s : Nat × Nat} {o0 o : Blk} {o' : Obj} {w' : World} (hbi : h.base ≤ i) (hg : h.get i = some o0) (hr : ρ i = some (b, s)) (hb : BRel P ρ s o o')
    (hheap : w'.heap = w.heap.setIfInBounds b o') (hos : w'.os = w.os) (hout : w'.output = w.output) (htape : w'.tape = w.tape) :
    Evo P B ρ h w ρ (h.set i (some o)) w' := by
  have hget : ∀ j, (h.set i (some o)).get j = if j = i then some o else h.get j := fun j => AH.get_set hbi
  have hsome : ∀ j, ((h.set i (some o)).get j).isSome → (h.get j).isSome := fun j hj => by
    rw [hget] at hj
    by_cases e : j = i
    · rw [e, hg]; rfl
    · rw [if_neg e] at hj; exact hj
  obtain ⟨ob, hob, _⟩ := hi.blk i o0 hg b s hr
  have hbl : b < w.heap.size := (Array.getElem?_eq_some_iff.1 hob).1
  have hin : i < h.next := by
    rcases Nat.lt_or_ge i h.next with h1 | h1
    · exact h1
    · rw [hi.freshG i h1] at hg; cases hg
  refine { ext := Ext.refl _, inv := ?_, un := fun _ _ h => h, keepU := ?_, stay := fun j hj hn => by rw [hget, if_neg (by intro e; subst e; rw [hg] at hn; cases hn)]; exact hn, frame := ?_, range := ?_, base := AH.set_base, oldG := ?_, next := by simp, size := by rw [hheap]; simp, os := hos, out := hout, tape := htape }
  · refine { blk := ?_, inj := ?_, low := ?_, old := ?_, fresh := ?_, freshG := ?_, glob := hi.glob, size := by rw [hheap]; simp; exact hi.size, bn := by simp; exact hi.bn }
    · intro j oj gj bj sj rj
      rw [hget] at gj
      by_cases e : j = i
      · subst e
        rw [if_pos rfl] at gj; cases gj
        rw [hr] at rj; cases rj
        exact ⟨o', by rw [hheap]; simp [hbl], hb⟩
      · rw [if_neg e] at gj
        obtain ⟨o2, h2, h3⟩ := hi.blk j oj gj bj sj rj
        refine ⟨o2, ?_, h3⟩
        have hne : b ≠ bj := by
          intro hbb
          subst hbb
          rcases Nat.lt_or_ge j h.base with h4 | h4
          · have := hi.old j b sj h4 rj
            have := hi.low i b s hbi (by rw [hg]; rfl) hr
            omega
          · exact e (hi.inj j i b sj s h4 hbi (by rw [gj]; rfl) (by rw [hg]; rfl) rj hr)
        rw [hheap, Array.getElem?_setIfInBounds_ne hne]
        exact h2
    · intro j k bb sj sk hj hk gj gk rj rk
      simp at hj hk
      exact hi.inj j k bb sj sk hj hk (hsome j gj) (hsome k gk) rj rk
    · intro j bb sj hj gj rj
      simp at hj
      exact hi.low j bb sj hj (hsome j gj) rj
    · intro j bb sj hj rj
      simp at hj
      exact hi.old j bb sj hj rj
    · intro j hj
      simp at hj
      exact hi.fresh j hj
    · intro j hj
      simp at hj
      rw [hget, if_neg (by omega)]
      exact hi.freshG j hj
  · intro j hj hn
    rw [hget, if_neg]
    intro e; subst e; rw [hr] at hn; cases hn
  · intro bb hbb hno
    have hne : b ≠ bb := fun e => hno i s hbi (by rw [hg]; rfl) (by rw [← e]; exact hr)
    rw [hheap, Array.getElem?_setIfInBounds_ne hne]
  · intro j bb sj hj gj rj _
    exact ⟨j, sj, hj, hsome j gj, rj⟩
  · intro j hj
    rw [hget, if_neg (by omega)]

/-- A block that is written and goes by a new number. -/
theorem evo_move (hi : Inv P B ρ h w) {i b : Nat} {s s' : Nat × Nat} {o0 o : Blk} {o' : Obj} {w' : World} (hbi : h.base ≤ i) (hg : h.get i = some o0) (hr : ρ i = some (b, s)) (hb : BRel P (upd ρ h.next (b, s')) s' o o')
    (hheap : w'.heap = w.heap.setIfInBounds b o') (hos : w'.os = w.os) (hout : w'.output = w.output) (htape : w'.tape = w.tape) :
    Evo P B ρ h w (upd ρ h.next (b, s')) ((h.set i none).alloc o) w' := by
  have hext : Ext ρ (upd ρ h.next (b, s')) := Ext.upd (hi.fresh _ (Nat.le_refl _))
  have hget : ∀ j, ((h.set i none).alloc o).get j = if j = h.next then some o else if j = i then none else h.get j := fun j => by
    rw [AH.get_alloc (by simp; exact hi.bn), AH.get_set hbi]; simp
  obtain ⟨ob, hob, _⟩ := hi.blk i o0 hg b s hr
  have hbl : b < w.heap.size := (Array.getElem?_eq_some_iff.1 hob).1
  have hin : i < h.next := by
    rcases Nat.lt_or_ge i h.next with h1 | h1
    · exact h1
    · rw [hi.freshG i h1] at hg; cases hg
  have hbB := hi.low i b s hbi (by rw [hg]; rfl) hr
  have key : ∀ j bj sj, j ≠ h.next → ((h.set i none).alloc o).get j ≠ none → ρ j = some (bj, sj) → (h.get j).isSome ∧ j ≠ i ∧ b ≠ bj := by
    intro j bj sj e gj rj
    rw [hget, if_neg e] at gj
    by_cases e' : j = i
    · rw [if_pos e'] at gj; exact absurd rfl gj
    · rw [if_neg e'] at gj
      have hs : (h.get j).isSome := by cases hh : h.get j with | none => exact absurd hh gj | some _ => rfl
      refine ⟨hs, e', ?_⟩
      intro hbb
      subst hbb
      rcases Nat.lt_or_ge j h.base with h4 | h4
      · have := hi.old j b sj h4 rj
        omega
      · exact e' (hi.inj j i b sj s h4 hbi hs (by rw [hg]; rfl) rj hr)
  refine { ext := hext, inv := ?_, un := ?_, keepU := ?_, stay := fun j hj hn => by rw [hget, if_neg (by omega)]; split; rfl; exact hn, frame := ?_, range := ?_, base := by simp, oldG := ?_, next := by simp, size := by rw [hheap]; simp, os := hos, out := hout, tape := htape }
  · refine { blk := ?_, inj := ?_, low := ?_, old := ?_, fresh := ?_, freshG := ?_, glob := fun g hg' => hext _ _ (hi.glob g hg'), size := by rw [hheap]; simp; exact hi.size, bn := by simp; exact Nat.le_succ_of_le hi.bn }
    · intro j oj gj bj sj rj
      by_cases e : j = h.next
      · subst e
        rw [hget, if_pos rfl] at gj; cases gj
        rw [upd_same] at rj; cases rj
        exact ⟨o', by rw [hheap]; simp [hbl], hb⟩
      · rw [upd_other e] at rj
        obtain ⟨_, e', hne⟩ := key j bj sj e (by rw [gj]; simp) rj
        rw [hget, if_neg e, if_neg e'] at gj
        obtain ⟨o2, h2, h3⟩ := hi.blk j oj gj bj sj rj
        exact ⟨o2, by rw [hheap, Array.getElem?_setIfInBounds_ne hne]; exact h2, h3.mono hext⟩
    · intro j k bb sj sk hj hk gj gk rj rk
      simp at hj hk
      by_cases e : j = h.next
      · by_cases e2 : k = h.next
        · rw [e, e2]
        · rw [upd_other e2] at rk
          obtain ⟨_, _, hne⟩ := key k bb sk e2 (by intro hh; rw [hh] at gk; cases gk) rk
          subst e; rw [upd_same] at rj; cases rj; exact absurd rfl hne
      · rw [upd_other e] at rj
        obtain ⟨s1, _, hne⟩ := key j bb sj e (by intro hh; rw [hh] at gj; cases gj) rj
        by_cases e2 : k = h.next
        · subst e2; rw [upd_same] at rk; cases rk; exact absurd rfl hne
        · rw [upd_other e2] at rk
          obtain ⟨s2, _, _⟩ := key k bb sk e2 (by intro hh; rw [hh] at gk; cases gk) rk
          exact hi.inj j k bb sj sk hj hk s1 s2 rj rk
    · intro j bb sj hj gj rj
      simp at hj
      by_cases e : j = h.next
      · subst e; rw [upd_same] at rj; cases rj; exact hbB
      · rw [upd_other e] at rj
        obtain ⟨s1, _, _⟩ := key j bb sj e (by intro hh; rw [hh] at gj; cases gj) rj
        exact hi.low j bb sj hj s1 rj
    · intro j bb sj hj rj
      simp at hj
      have e : j ≠ h.next := by have := hi.bn; omega
      rw [upd_other e] at rj
      exact hi.old j bb sj hj rj
    · intro j hj
      simp at hj
      rw [upd_other (by omega)]
      exact hi.fresh j (by omega)
    · intro j hj
      simp at hj
      rw [hget, if_neg (by omega), if_neg (by omega)]
      exact hi.freshG j (by omega)
  · intro j hj hn
    rw [upd_other (by omega)]; exact hn
  · intro j hj hn
    rw [hget, if_neg (by omega), if_neg]
    intro e; subst e; rw [hr] at hn; cases hn
  · intro bb hbb hno
    have hne : b ≠ bb := fun e => hno i s hbi (by rw [hg]; rfl) (by rw [← e]; exact hr)
    rw [hheap, Array.getElem?_setIfInBounds_ne hne]
  · intro j bb sj hj gj rj _
    by_cases e : j = h.next
    · subst e; rw [upd_same] at rj; cases rj
      exact ⟨i, s, hbi, by rw [hg]; rfl, hr⟩
    · rw [upd_other e] at rj
      obtain ⟨s1, _, _⟩ := key j bb sj e (by intro hh; rw [hh] at gj; cases gj) rj
      exact ⟨j, sj, hj, s1, rj⟩
  · intro j hj
    have := hi.bn
    rw [hget, if_neg (by omega), if_neg (by omega)]

/-! ### Cells -/
theorem add_none (b o n : Nat) : Addr.add ⟨b, o, none⟩ n = ⟨b, o + n, none⟩ := by
  unfold Addr.add
  split
  · rename_i h; subst h; rfl
  · rfl
theorem cell_of_block {b e o : Nat} {c : Array Value} {fz : Nat × Nat} (hb : w.heap[b]? = some (.cells c e fz)) : w.cell? ⟨b, o, none⟩ = c[o]? := by
  simp [World.cell?, hb]
theorem loadCells_run (hi : Inv P B ρ h w) {a : Addr} {b n : Nat} {s : Nat × Nat} {l : List Value} (hr : ρ a.block = some (b, s)) (hl : loadCellsAt h a n = some l) :
    ∃ l', (loadCells ⟨b, a.off + s.2, none⟩ n).run P w = .ok ⟨l'⟩ w ∧ LRel ρ l l' ∧ a.spot = none ∧ l.length = n := by
  unfold loadCellsAt at hl
  cases hs : a.spot with
  | some x => simp [hs] at hl
  | none =>
    simp only [hs, Option.isSome_none, Bool.false_eq_true, if_false] at hl
    split at hl
    · rename_i c e fz x hg
      split at hl
      · rename_i hle
        cases hl
        obtain ⟨o', ho, c', rfl, hc, hsz, _⟩ := hi.blk _ _ hg b s hr
        have hlen := hc.length
        have hcd : (c'.toList.drop s.2).length = c'.size - s.2 := by simp
        refine ⟨(((c'.toList.drop s.2).take c.length).drop a.off).take n, ?_, (hc.drop _).take _, rfl, by simp; omega⟩
        have hn : ((((c'.toList.drop s.2).take c.length).drop a.off).take n).length = n := by
          have := ((hc.drop a.off).take n).length
          rw [this]; simp; omega
        have := run_loadCells_list (P := P) (w := w) ⟨b, a.off + s.2, none⟩ ((((c'.toList.drop s.2).take c.length).drop a.off).take n) (fun j v hj => by
          rw [add_none, cell_of_block ho]
          rw [List.getElem?_take] at hj
          split at hj
          · rw [List.getElem?_drop, List.getElem?_take] at hj
            split at hj
            · rw [List.getElem?_drop] at hj
              rw [show a.off + s.2 + j = s.2 + (a.off + j) by omega]
              simpa using hj
            · cases hj
          · cases hj)
        rw [hn] at this
        exact this
      · cases hl
    · cases hl

theorem storeCells_run {b e : Nat} {fz : Nat × Nat} (hfz : fz.2 = 0) : ∀ (vs : List Value) (w : World) (c : Array Value) (off i : Nat), w.heap[b]? = some (.cells c e fz) → (∀ v ∈ vs, v.oneCell' = true) → off + i + vs.length ≤ c.size →
    ∃ w', (storeCells ⟨b, off, none⟩ vs i).run P w = .ok () w' ∧ w'.heap = w.heap.setIfInBounds b (.cells ⟨splice c.toList (off + i) vs⟩ e fz) ∧ w'.os = w.os ∧ w'.output = w.output ∧ w'.tape = w.tape
  | [], w, c, off, i, hb, _, _ => by
    refine ⟨w, by simp [storeCells], ?_, rfl, rfl, rfl⟩
    simp only [splice, List.append_nil, List.length_nil, Nat.add_zero, List.take_append_drop]
    obtain ⟨hlt, hb'⟩ := Array.getElem?_eq_some_iff.1 hb
    apply Array.ext_getElem?
    intro j
    by_cases e' : b = j
    · subst e'; simp [hlt, hb']
    · rw [Array.getElem?_setIfInBounds_ne e']
  | v :: vs, w, c, off, i, hb, hv, hsz => by
    simp only [List.length_cons] at hsz
    have h1 : w.cell? ⟨b, off + i, none⟩ = some c[off + i] := by rw [cell_of_block hb]; exact Array.getElem?_eq_getElem (by omega)
    have h2 : w.frozen? ⟨b, off + i, none⟩ = false := by simp [World.frozen?, hb, hfz]
    have hb2 : (w.setCell ⟨b, off + i, none⟩ v).heap[b]? = some (.cells (c.setIfInBounds (off + i) v) e fz) := by
      simp [World.setCell, Array.getElem?_modify, hb]
    obtain ⟨w', hr, hh, ho, hu, ht⟩ := storeCells_run hfz vs (w.setCell ⟨b, off + i, none⟩ v) (c.setIfInBounds (off + i) v) off (i + 1) hb2 (fun u hu => hv u (List.mem_cons_of_mem _ hu)) (by simp; omega)
    refine ⟨w', ?_, ?_, ho, hu, ht⟩
    · simp only [storeCells, Sem.run_bind]
      rw [add_none, run_store P w _ v _ (hv v List.mem_cons_self)]
      simp only [h1, h2]
      simpa using hr
    · rw [hh]
      apply Array.ext_getElem?
      intro j
      by_cases e' : b = j
      · subst e'
        have hlt := (Array.getElem?_eq_some_iff.1 hb).1
        simp only [World.setCell]
        rw [Array.getElem?_setIfInBounds_self, Array.getElem?_setIfInBounds_self]
        simp only [Array.size_modify, hlt, if_true]
        congr 2
        apply Array.ext'
        simp only [splice, Array.toList_setIfInBounds, List.length_cons]
        rw [show off + (i + 1) = off + i + 1 by omega, List.take_succ_eq_append_getElem (by simp; omega)]
        simp only [List.getElem_set_self, List.append_assoc, List.nil_append, List.take_set_of_le (Nat.le_refl _), List.cons_append]
        rw [List.drop_set_of_lt (by omega), show off + i + 1 + vs.length = off + i + (vs.length + 1) by omega]
      · rw [Array.getElem?_setIfInBounds_ne e', Array.getElem?_setIfInBounds_ne e']
        simp [World.setCell, Array.getElem?_modify, e']

theorem store_run (hi : Inv P B ρ h w) {a : Addr} {b : Nat} {s : Nat × Nat} {vs vs' : List Value} {h' : AH} (hr : ρ a.block = some (b, s)) (hl : storeCellsAt h a vs = some h') (hv : LRel ρ vs vs') :
    ∃ w', (storeCells ⟨b, a.off + s.2, none⟩ vs').run P w = .ok () w' ∧ Evo P B ρ h w ρ h' w' ∧ a.spot = none := by
  unfold storeCellsAt at hl
  split at hl
  · cases hl
  rename_i hcond
  simp only [Bool.or_eq_true, not_or, Bool.not_eq_true, decide_eq_false_iff_not, Bool.not_eq_false'] at hcond
  obtain ⟨⟨hs, hbase⟩, hall⟩ := hcond
  have hs : a.spot = none := by cases hh : a.spot with | none => rfl | some _ => rw [hh] at hs; cases hs
  split at hl
  · rename_i c e fz x hg
    split at hl
    · rename_i hle
      cases hl
      obtain ⟨o', ho, c', rfl, hc, hsz, hx⟩ := hi.blk _ _ hg b s hr
      have hlen := hc.length
      have hvl := hv.length
      have hone : ∀ v ∈ vs', v.oneCell' = true := by
        intro v hv'
        obtain ⟨j, hj⟩ := List.getElem?_of_mem hv'
        have hjl : j < vs.length := by
          have := (List.getElem?_eq_some_iff.1 hj).1
          omega
        obtain ⟨u, hu, hru⟩ := hv.get (List.getElem?_eq_getElem hjl)
        rw [hj] at hu; cases hu
        exact hru.oneCell (List.all_eq_true.1 hall _ (List.getElem_mem hjl))
      simp only [List.length_take] at hlen
      obtain ⟨w', hrun, hheap, hos, hout, htape⟩ := storeCells_run (P := P) hle.1 vs' w c' (a.off + s.2) 0 ho hone (by simp at hlen ⊢; omega)
      refine ⟨w', hrun, evo_set hi (Nat.not_lt.1 hbase) hg hr (o := .cells (splice c a.off vs) e fz x) ⟨_, rfl, ?_, ?_, hx⟩ hheap hos hout htape, hs⟩
      · have : ((splice c'.toList (a.off + s.2 + 0) vs').drop s.2).take (splice c a.off vs).length = splice ((c'.toList.drop s.2).take c.length) a.off vs' := by
          have hd : (splice c'.toList (a.off + s.2 + 0) vs').drop s.2 = splice (c'.toList.drop s.2) a.off vs' := by
            unfold splice
            simp only [Nat.add_zero]
            rw [List.append_assoc, List.drop_append_of_le_length (by simp; omega), List.drop_take, List.drop_drop, List.append_assoc]
            rw [show a.off + s.2 - s.2 = a.off by omega, show s.2 + (a.off + vs'.length) = a.off + s.2 + vs'.length by omega]
          rw [hd]
          unfold splice
          rw [List.take_append, List.take_append]
          simp only [List.length_append, List.length_take, List.length_drop, List.take_take]
          have e1 : min a.off c.length = a.off := by omega
          have e2 : a.off + vs.length + (c.length - (a.off + vs.length)) = c.length := by omega
          rw [e1, e2]
          have e3 : min c.length a.off = a.off := by omega
          have e4 : min a.off (c'.toList.length - s.2) = a.off := by simp; simp at hlen; omega
          rw [e3, e4]
          congr 1
          · congr 1
            rw [List.take_of_length_le (by omega)]
          · rw [List.drop_take]
        show LRel ρ _ (((splice c'.toList (a.off + s.2 + 0) vs').drop s.2).take (splice c a.off vs).length)
        rw [this]
        exact hc.splice _ hv
      · simp only [splice, List.length_append, List.length_take, List.length_drop] at *
        simp at hlen
        simp
        omega
    · cases hl
  · cases hl

end Go.Ab
end
section
namespace Go.Ab
open Go.RowKit
variable {P : Program} {B : Nat} {ρ : Rho} {h : AH} {w : World}

theorem info_of_cells {t : TypeId} (hn : P.cellsOf t ≠ 0) : ∃ i, P.info? t = some i ∧ i.size = P.cellsOf t := by
  unfold Program.cellsOf at hn ⊢
  cases hi : P.info? t with
  | none => simp [hi] at hn
  | some i => exact ⟨i, rfl, by simp⟩
theorem size_run {t : TypeId} {i : TypeInfo} (hi : P.info? t = some i) : (sizeOf t).run P w = .ok (P.cellsOf t) w := by
  simp [sizeOf, typeInfo, hi, Program.cellsOf]
theorem underlying_info {t : TypeId} {d : TypeDesc} (hd : P.underlying t = some d) : ∃ i, P.info? t = some i := by
  unfold Program.underlying at hd
  cases hi : P.info? t with
  | none => simp [hi] at hd
  | some i => exact ⟨i, rfl⟩
theorem agg_run {t : TypeId} {b : Bool} (hb : aggOf P t = some b) : (isAgg t).run P w = .ok b w := by
  unfold aggOf at hb
  cases hd : P.underlying t with
  | none => simp [hd] at hb
  | some d =>
    rw [hd] at hb
    simp only [Option.map_some, Option.some.injEq] at hb
    unfold isAgg
    simp only [Sem.run_bind, run_underlying hd, Result.andThen_ok]
    subst hb
    cases d <;> rfl
theorem agg_info {t : TypeId} {b : Bool} (hb : aggOf P t = some b) : ∃ i, P.info? t = some i := by
  unfold aggOf at hb
  cases hd : P.underlying t with
  | none => simp [hd] at hb
  | some d => exact underlying_info hd

theorem zero_run {e : TypeId} {z : List Value} (hz : zeroOf P e = some z) :
    ∃ i zv, P.info? e = some i ∧ i.zero = some zv ∧ (zeroValue e).run P w = .ok zv w ∧ zv.cells.toList = z ∧ z.length = P.cellsOf e ∧ (∀ ρ : Rho, LRel ρ z z) := by
  unfold zeroOf at hz
  cases hi : P.info? e with
  | none => simp [hi] at hz
  | some i =>
    cases hz0 : i.zero with
    | none => simp [hi, hz0] at hz
    | some zv =>
      simp only [hi, hz0, Option.bind_some] at hz
      split at hz
      · rename_i hc
        simp only [Bool.and_eq_true, beq_iff_eq] at hc
        cases hz
        refine ⟨i, zv, rfl, hz0, by simp [zeroValue, typeInfo, hi, hz0], rfl, by simpa using hc.2, fun ρ => ?_⟩
        have hp := plainV_rel (ρ := ρ) zv hc.1.1
        exact hp.cells (by cases zv <;> first | rfl | simp [plainV] at hc)
      · cases hz

theorem part_run {t : TypeId} {cs cs' : List Value} {off : Nat} {v : Value} (hv : apart P t cs off = some v) (hc : LRel ρ cs cs') :
    ∃ v', (part t ⟨cs'⟩ off).run P w = .ok v' w ∧ VRel ρ v v' := by
  unfold apart at hv
  cases hb : aggOf P t with
  | none => simp [hb] at hv
  | some b =>
    obtain ⟨i, hi⟩ := agg_info hb
    rw [hb] at hv
    cases b with
    | true =>
      simp only at hv
      split at hv
      · cases hv
        refine ⟨.agg ⟨(cs'.drop off).take (P.cellsOf t)⟩, ?_, ?_⟩
        · simp only [part, Sem.run_bind, agg_run hb, Result.andThen_ok, if_true, size_run hi, Sem.run_pure]
          congr 2
          apply Array.ext'
          simp
        · simp only [VRel]
          exact ⟨_, by simp only [ARel]; exact (hc.drop off).take _, rfl⟩
      · cases hv
    | false =>
      simp only at hv
      obtain ⟨v', hv', hr⟩ := hc.get hv
      refine ⟨v', ?_, hr⟩
      simp only [part, Sem.run_bind, agg_run hb, Result.andThen_ok]
      simp [hv']

theorem load_sound (hi : Inv P B ρ h w) {t : TypeId} {a : Addr} {a' v : Value} (ha : VRel ρ (.pointer (some a)) a') (hv : aload P h t a = some v) :
    ∃ v', (Instr.loadAt t a').run P w = .ok v' w ∧ VRel ρ v v' := by
  simp only [VRel] at ha
  obtain ⟨b, s, hr, rfl⟩ := ha
  unfold aload at hv
  cases hb : aggOf P t with
  | none => simp [hb] at hv
  | some x =>
    obtain ⟨i, hinf⟩ := agg_info hb
    rw [hb] at hv
    cases x with
    | true =>
      simp only [Option.map_eq_some_iff] at hv
      obtain ⟨l, hl, rfl⟩ := hv
      obtain ⟨l', hrun, hrel, hs, _⟩ := loadCells_run hi hr hl
      refine ⟨.agg ⟨l'⟩, ?_, ?_⟩
      · rw [hs]
        simp only [Instr.loadAt, Instr.sureAddr, loadVar, Sem.run_bind, Sem.run_pure, Result.andThen_ok, agg_run hb, if_true, size_run hinf, hrun]
      · simp only [VRel]; exact ⟨_, by simp only [ARel]; exact hrel, rfl⟩
    | false =>
      simp only at hv
      split at hv
      · cases hv
      · rename_i hs
        have hs : a.spot = none := by cases hh : a.spot with | none => rfl | some _ => rw [hh] at hs; exact absurd rfl hs
        split at hv
        · rename_i c e fz x hg
          obtain ⟨o', ho, c', rfl, hc, hsz, _⟩ := hi.blk _ _ hg b s hr
          obtain ⟨v', hv', hrel⟩ := hc.get hv
          refine ⟨v', ?_, hrel⟩
          have hcell : w.cell? ⟨b, a.off + s.2, none⟩ = some v' := by
            rw [cell_of_block ho]
            rw [List.getElem?_take] at hv'
            split at hv'
            · rw [List.getElem?_drop] at hv'
              rw [Nat.add_comm]
              simpa using hv'
            · cases hv'
          rw [hs]
          simp only [Instr.loadAt, Instr.sureAddr, loadVar, Sem.run_bind, Sem.run_pure, Result.andThen_ok, agg_run hb]
          simp [hcell]
        · cases hv

theorem store_sound (hi : Inv P B ρ h w) {t : TypeId} {a : Addr} {a' v v' : Value} {h' : AH} (ha : VRel ρ (.pointer (some a)) a') (hv : VRel ρ v v') (hs : astore P h t a v = some h') :
    ∃ w', (Instr.storeAt t a' v').run P w = .ok () w' ∧ Evo P B ρ h w ρ h' w' := by
  simp only [VRel] at ha
  obtain ⟨b, s, hr, rfl⟩ := ha
  unfold astore cellsOfV at hs
  cases ht : isTop v with
  | true => simp [ht] at hs
  | false =>
    simp only [ht, Bool.false_eq_true, if_false] at hs
    split at hs
    · rename_i hc
      obtain ⟨hlen, hsome⟩ := hc
      obtain ⟨i, hinf⟩ := Option.isSome_iff_exists.1 hsome
      have hcells := hv.cells ht
      obtain ⟨w', hrun, hevo, hspot⟩ := store_run hi hr hs hcells
      refine ⟨w', ?_, hevo⟩
      rw [hspot]
      have hl := hcells.length
      simp only [Instr.storeAt, Instr.sureAddr, storeVar, Sem.run_bind, Sem.run_pure, Result.andThen_ok, size_run hinf]
      rw [if_neg]
      · simpa using hrun
      · simp only [ne_eq, Decidable.not_not]
        simp only [Array.length_toList] at hl hlen
        omega
    · cases hs

/-! ### 'build' -/
def PRel (ρ : Rho) : List (Nat × Value) → List (Nat × Value) → Prop
  | [], l => l = []
  | (i, v) :: l, l' => ∃ v' t, VRel ρ v v' ∧ PRel ρ l t ∧ l' = (i, v') :: t
theorem fold_splice : ∀ (vs : List Value) (c : Array Value) (off i : Nat), off + i + vs.length ≤ c.size →
    ((vs.zipIdx i).foldl (fun cs (x : Value × Nat) => cs.setIfInBounds (off + x.2) x.1) c) = ⟨splice c.toList (off + i) vs⟩
  | [], c, off, i, _ => by
    apply Array.ext'
    simp [splice]
  | v :: vs, c, off, i, hsz => by
    simp only [List.length_cons] at hsz
    simp only [List.zipIdx_cons, List.foldl_cons]
    rw [fold_splice vs (c.setIfInBounds (off + i) v) off (i + 1) (by simp; omega)]
    congr 1
    simp only [splice, Array.toList_setIfInBounds, List.length_cons]
    rw [show off + (i + 1) = off + i + 1 by omega, List.take_succ_eq_append_getElem (by simp; omega)]
    simp only [List.getElem_set_self, List.append_assoc, List.nil_append, List.take_set_of_le (Nat.le_refl _), List.cons_append]
    rw [List.drop_set_of_lt (by omega), show off + i + 1 + vs.length = off + i + (vs.length + 1) by omega]
theorem fill_rel {place : Nat → Option (Nat × Nat)} : ∀ (parts parts' : List (Nat × Value)) (cells cells' r : List Value), PRel ρ parts parts' → LRel ρ cells cells' → afill place cells parts = some r →
    ∃ r', Instr.fill place ⟨cells'⟩ parts' = some ⟨r'⟩ ∧ LRel ρ r r'
  | [], parts', cells, cells', r, hp, hc, hf => by
    simp only [PRel] at hp; subst hp
    simp only [afill, Option.some.injEq] at hf; subst hf
    exact ⟨cells', rfl, hc⟩
  | (i, v) :: parts, parts', cells, cells', r, hp, hc, hf => by
    simp only [PRel] at hp
    obtain ⟨v', t, hv, ht, rfl⟩ := hp
    simp only [afill] at hf
    split at hf
    · rename_i off size vs hpl hcv
      unfold cellsOfV at hcv
      split at hcv
      · cases hcv
      · rename_i htop
        cases hcv
        split at hf
        · rename_i hsz
          have hcells := hv.cells (by simpa using htop)
          have hl := hcells.length
          have hcl := hc.length
          obtain ⟨r', hr', hrel⟩ := fill_rel parts t _ _ r ht (hc.splice off hcells) hf
          refine ⟨r', ?_, hrel⟩
          simp only [Instr.fill, hpl]
          simp only [Array.length_toList] at hl hsz
          rw [if_neg]
          · rw [← Array.foldl_toList, Array.toList_zipIdx]
            rw [fold_splice v'.cells.toList ⟨cells'⟩ off 0 (by simp; omega)]
            simpa using hr'
          · have h1 : v'.cells.size = size := by omega
            have h2 : ¬ off + v'.cells.size > (⟨cells'⟩ : Array Value).size := by show ¬ off + v'.cells.size > cells'.length; omega
            simp [h1] at *
            omega
        · cases hf
    · cases hf
theorem PRel.map {α : Type} {f g : α → Value} {k : α → Nat} (hfg : ∀ x, VRel ρ (f x) (g x)) : ∀ l : List α, PRel ρ (l.map fun p => (k p, f p)) (l.map fun p => (k p, g p))
  | [] => rfl
  | x :: l => ⟨g x, _, hfg x, PRel.map hfg l, rfl⟩
theorem places_run : ∀ (fs : List Field), (∀ f ∈ fs, (P.info? f.type).isSome) →
    (fs.mapM (m := Sem) fun f => do pure (f.offset, ← sizeOf f.type)).run P w = .ok (fs.map fun f => (f.offset, P.cellsOf f.type)) w
  | [], _ => by simp
  | f :: fs, hf => by
    obtain ⟨i, hi⟩ := Option.isSome_iff_exists.1 (hf f List.mem_cons_self)
    simp only [List.mapM_cons, Sem.run_bind, size_run hi, Result.andThen_ok, Sem.run_pure, places_run fs (fun g hg => hf g (List.mem_cons_of_mem _ hg)), List.map_cons]
theorem build_sound {t : TypeId} {parts : List (Nat × Value)} {parts' : Array (Nat × Value)} {v : Value} (hp : PRel ρ parts parts'.toList) (hv : abuild P t parts = some v) :
    ∃ v', (Instr.build t parts').run P w = .ok v' w ∧ VRel ρ v v' := by
  unfold abuild at hv
  split at hv
  · rename_i z fs hz hd
    obtain ⟨i, zv, _, _, hzr, hzc, _, hzz⟩ := zero_run (w := w) hz
    split at hv
    · rename_i hall
      simp only [Option.map_eq_some_iff] at hv
      obtain ⟨l, hl, rfl⟩ := hv
      obtain ⟨r', hr', hrel⟩ := fill_rel parts parts'.toList z z l hp (hzz ρ) hl
      refine ⟨.agg ⟨r'⟩, ?_, by simp only [VRel]; exact ⟨_, by simp only [ARel]; exact hrel, rfl⟩⟩
      have hz' : zv.cells = ⟨z⟩ := by rw [← hzc]
      have hpl : (fs.mapM (m := Sem) fun f => do pure (f.offset, ← sizeOf f.type)).run P w = .ok (fs.map fun f => (f.offset, P.cellsOf f.type)) w := by
        rw [Array.mapM_eq_mapM_toList]
        simp only [Sem.run_map]
        rw [places_run fs.toList (fun f hf => by
          have := Array.all_eq_true'.1 hall f (by simpa using hf)
          exact this)]
        simp only [Result.andThen_ok, Result.ok.injEq, and_true]
        exact Array.ext' (by simp)
      simp only [Instr.build, Sem.run_bind, hzr, Result.andThen_ok, run_underlying hd, hpl, hz']
      have : (fun x : Nat => (fs.map fun f => (f.offset, P.cellsOf f.type))[x]?) = fun i => (fs[i]?).map fun f => (f.offset, P.cellsOf f.type) := by funext j; simp
      rw [this, hr']
      rfl
    · cases hv
  · rename_i z n e hz hd
    obtain ⟨i, zv, _, _, hzr, hzc, _, hzz⟩ := zero_run (w := w) hz
    split at hv
    · rename_i he
      obtain ⟨ie, hie⟩ := Option.isSome_iff_exists.1 he
      simp only [Option.map_eq_some_iff] at hv
      obtain ⟨l, hl, rfl⟩ := hv
      obtain ⟨r', hr', hrel⟩ := fill_rel parts parts'.toList z z l hp (hzz ρ) hl
      refine ⟨.agg ⟨r'⟩, ?_, by simp only [VRel]; exact ⟨_, by simp only [ARel]; exact hrel, rfl⟩⟩
      have hz' : zv.cells = ⟨z⟩ := by rw [← hzc]
      simp only [Instr.build, Sem.run_bind, hzr, Result.andThen_ok, run_underlying hd, size_run hie, hz', hr']
      rfl
    · cases hv
  · cases hv

end Go.Ab
end
section
namespace Go.Ab
open Go.RowKit
variable {P : Program} {B : Nat} {ρ : Rho} {h : AH} {w : World}

def ORel (ρ : Rho) : Option Value → Option Value → Prop
  | none, v => v = none
  | some v, v' => ∃ u, VRel ρ v u ∧ v' = some u
theorem ORel.map {ev ev' : Operand → Value} (hev : ∀ x, VRel ρ (ev x) (ev' x)) (o : Option Operand) : ORel ρ (o.map ev) (o.map ev') := by
  cases o with
  | none => rfl
  | some x => exact ⟨_, hev x, rfl⟩

theorem bound_run {v v' : Value} (hv : VRel ρ v v') {d y y' r : Nat} (hy : y ≤ y') (hb : bnd (some v) d y = some r) : (∀ code, (Instr.sliceBound v' y' code).run P w = .ok r w) ∧ r ≤ y := by
  unfold bnd at hb
  split at hb
  · rename_i he; cases he
  · rename_i k i he
    cases he
    simp only [VRel] at hv
    subst hv
    split at hb
    · rename_i hi
      cases hb
      exact ⟨fun code => run_sliceBound w k i y' code hi.1 (by omega), by omega⟩
    · cases hb
  · cases hb

theorem bounds_run {lo hi mx lo' hi' mx' : Option Value} (hlo : ORel ρ lo lo') (hhi : ORel ρ hi hi') (hmx : ORel ρ mx mx') (isS : Bool) {len cap cap' m hh l : Nat} (hc : cap ≤ cap')
    (h1 : bnd mx cap cap = some m) (h2 : (if hi.isNone && mx.isSome then none else bnd hi len m) = some hh) (h3 : bnd lo 0 hh = some l) :
    (Instr.sliceBounds isS len cap' lo' hi' mx').run P w = .ok (l, hh, if mx.isSome then m else cap') w ∧ m ≤ cap ∧ l ≤ hh ∧ (mx = none → m = cap) := by
  cases mx with
  | none =>
    simp only [ORel] at hmx; subst hmx
    simp only [bnd, Option.some.injEq] at h1; subst h1
    cases hi with
    | none =>
      simp only [ORel] at hhi; subst hhi
      simp [bnd] at h2; subst h2
      cases lo with
      | none => simp only [ORel] at hlo; subst hlo; simp [bnd] at h3; subst h3; simp [Instr.sliceBounds]
      | some v =>
        obtain ⟨u, hu, rfl⟩ := hlo
        obtain ⟨hr, hle⟩ := bound_run (P := P) (w := w) hu (Nat.le_refl _) h3
        simp [Instr.sliceBounds, hr, hle]
    | some v =>
      obtain ⟨u, hu, rfl⟩ := hhi
      simp at h2
      obtain ⟨hr, hle⟩ := bound_run (P := P) (w := w) hu hc h2
      cases lo with
      | none => simp only [ORel] at hlo; subst hlo; simp [bnd] at h3; subst h3; simp [Instr.sliceBounds, hr]
      | some v =>
        obtain ⟨u, hu, rfl⟩ := hlo
        obtain ⟨hr2, hle2⟩ := bound_run (P := P) (w := w) hu (Nat.le_refl _) h3
        simp [Instr.sliceBounds, hr, hr2, hle2]
  | some x =>
    obtain ⟨ux, hux, rfl⟩ := hmx
    obtain ⟨hr0, hle0⟩ := bound_run (P := P) (w := w) hux hc h1
    cases hi with
    | none => simp at h2
    | some v =>
      obtain ⟨u, hu, rfl⟩ := hhi
      simp at h2
      obtain ⟨hr, hle⟩ := bound_run (P := P) (w := w) hu (Nat.le_refl _) h2
      cases lo with
      | none => simp only [ORel] at hlo; subst hlo; simp [bnd] at h3; subst h3; simp [Instr.sliceBounds, hr0, hr, hle0]
      | some v =>
        obtain ⟨u, hu, rfl⟩ := hlo
        obtain ⟨hr2, hle2⟩ := bound_run (P := P) (w := w) hu (Nat.le_refl _) h3
        simp [Instr.sliceBounds, hr0, hr, hr2, hle2, hle0]

theorem slice_sound (hi : Inv P B ρ h w) {t : TypeId} {x x' : Value} {lo hi_ mx lo' hi' mx' : Option Value} {v : Value} (hx : VRel ρ x x') (hlo : ORel ρ lo lo') (hhi : ORel ρ hi_ hi') (hmx : ORel ρ mx mx')
    (hv : aslice P h t x lo hi_ mx = some v) : ∃ v', (Instr.sliceAt t x' lo' hi' mx').run P w = .ok v' w ∧ VRel ρ v v' := by
  unfold aslice at hv
  split at hv
  · -- an array behind a pointer
    rename_i n e a hd
    simp only [VRel] at hx
    obtain ⟨b, s, hr, rfl⟩ := hx
    split at hv
    · rename_i m h1
      split at hv
      · rename_i hh h2
        split at hv
        · rename_i l h3
          split at hv
          · rename_i hc
            cases hv
            obtain ⟨i, hinf⟩ := Option.isSome_iff_exists.1 hc.1
            obtain ⟨hb, _, _, hm⟩ := bounds_run (P := P) (w := w) hlo hhi hmx false (Nat.le_refl n) h1 h2 h3
            have hmm : (if mx.isSome then m else n) = m := by cases mx with | none => simp [hm rfl] | some _ => simp
            rw [hmm] at hb
            obtain ⟨ab, ao, asp⟩ := a
            obtain rfl : asp = none := hc.2
            refine ⟨.slice (some (if m = l then ⟨b, ao + s.2, none⟩ else Addr.add ⟨b, ao + s.2, none⟩ (l * P.cellsOf e))) (hh - l) (m - l), ?_, ?_⟩
            · simp only [Instr.sliceAt, Sem.run_bind, run_underlying hd, Result.andThen_ok, Instr.sureAddr, Sem.run_pure, hb, size_run hinf]
            · rw [add_none, add_none]
              split <;> (simp only [VRel]; exact ⟨b, s, _, hr, Nat.le_refl _, Nat.le_add_right _ _, by first | rfl | rw [Nat.add_right_comm]⟩)
          · cases hv
        · cases hv
      · cases hv
    · cases hv
  · -- a string
    rename_i s hd
    simp only [VRel] at hx; subst hx
    split at hv
    · cases hv
    · rename_i hmx0
      have hmx0 : mx = none := by cases mx with | none => rfl | some _ => exact absurd rfl hmx0
      subst hmx0
      split at hv
      · rename_i hh h2
        split at hv
        · rename_i l h3
          cases hv
          obtain ⟨hb, _⟩ := bounds_run (P := P) (w := w) hlo hhi hmx false (Nat.le_refl s.size) (m := s.size) rfl (by simpa using h2) h3
          simp only [ORel] at hmx; subst hmx
          refine ⟨.string (s.extract l hh), ?_, by simp only [VRel]⟩
          simp only [Instr.sliceAt, Instr.slice, Sem.run_bind, run_underlying hd, Result.andThen_ok, Option.isSome_none, Bool.false_eq_true, if_false, Sem.run_pure] at hb ⊢
          simp [hb]
        · cases hv
      · cases hv
  · -- a nil slice
    rename_i e len cap hd
    simp only [VRel] at hx; subst hx
    split at hv
    · rename_i m h1
      split at hv
      · rename_i hh h2
        split at hv
        · rename_i l h3
          split at hv
          · rename_i hc
            cases hv
            obtain ⟨i, hinf⟩ := Option.isSome_iff_exists.1 hc
            obtain ⟨hb, _, _, hm⟩ := bounds_run (P := P) (w := w) hlo hhi hmx true (Nat.le_refl cap) h1 h2 h3
            have hmm : (if mx.isSome then m else cap) = m := by cases mx with | none => simp [hm rfl] | some _ => simp
            rw [hmm] at hb
            refine ⟨.slice none (hh - l) (m - l), ?_, by simp only [VRel]⟩
            simp only [Instr.sliceAt, Instr.slice, Sem.run_bind, run_underlying hd, Result.andThen_ok, hb, size_run hinf, Sem.run_pure, Option.map_none]
            simp
          · cases hv
        · cases hv
      · cases hv
    · cases hv
  · -- a slice
    rename_i e a len cap hd
    obtain ⟨ab, ao, asp⟩ := a
    split at hv
    · rename_i m h1
      split at hv
      · rename_i hh h2
        split at hv
        · rename_i l h3
          split at hv
          · -- one that has no room
            rename_i hs
            obtain ⟨sp, rfl⟩ : ∃ sp, asp = some sp := by cases asp with | none => simp at hs | some sp => exact ⟨sp, rfl⟩
            split at hv
            · rename_i hc
              obtain ⟨hinf, rfl, rfl⟩ := hc
              cases hv
              obtain ⟨i, hinf⟩ := Option.isSome_iff_exists.1 hinf
              simp only [VRel] at hx
              obtain ⟨_, _, a', c', _, _, rfl⟩ := hx
              obtain ⟨hb, hmc, hlh, hm⟩ := bounds_run (P := P) (w := w) hlo hhi hmx true (Nat.zero_le c') h1 h2 h3
              obtain rfl : m = 0 := by omega
              have hz : hh = 0 := by
                cases hi_ with
                | none =>
                  simp only [Option.isNone_none, Bool.true_and] at h2
                  split at h2
                  · cases h2
                  · unfold bnd at h2
                    simp at h2
                    omega
                | some v =>
                  simp at h2
                  unfold bnd at h2
                  split at h2
                  · rename_i he; cases he
                  · split at h2
                    · cases h2; omega
                    · cases h2
                  · cases h2
              subst hz
              obtain rfl : l = 0 := by omega
              cases hms : mx.isSome with
              | true =>
                refine ⟨.slice (some a') 0 0, ?_, ?_⟩
                · simp only [Instr.sliceAt, Instr.slice, Sem.run_bind, run_underlying hd, Result.andThen_ok, hb, size_run hinf, Sem.run_pure, Option.map_some, hms, if_true]
                · simp only [if_true, empty0, VRel]
                  exact ⟨trivial, trivial, _, _, fun _ => rfl, fun hh => absurd hh (by omega), rfl⟩
              | false =>
                refine ⟨.slice (some (if c' = 0 then a' else a'.add (0 * P.cellsOf e))) 0 c', ?_, ?_⟩
                · simp only [Instr.sliceAt, Instr.slice, Sem.run_bind, run_underlying hd, Result.andThen_ok, hb, size_run hinf, Sem.run_pure, Option.map_some, hms, Bool.false_eq_true, if_false, Nat.sub_zero]
                  split <;> rfl
                · simp only [Bool.false_eq_true, if_false, any0, VRel]
                  exact ⟨trivial, trivial, _, _, fun hh => absurd hh (by omega), fun hh => absurd hh (by omega), rfl⟩
            · cases hv
          · rename_i hs
            have hs : asp = none := by cases asp with | none => rfl | some _ => exact absurd rfl hs
            subst hs
            simp only [VRel] at hx
            obtain ⟨b, s, c', hr, hc1, hc2, rfl⟩ := hx
            split at hv
            · rename_i hc
              obtain ⟨i, hinf⟩ := Option.isSome_iff_exists.1 hc.1
              obtain ⟨hb, hmc, hlh, hm⟩ := bounds_run (P := P) (w := w) hlo hhi hmx true hc1 h1 h2 h3
              have hrun : (Instr.sliceAt t (.slice (some ⟨b, ao + s.2, none⟩) len c') lo' hi' mx').run P w =
                  .ok (.slice (some (if (if mx.isSome then m else c') = l then ⟨b, ao + s.2, none⟩ else ⟨b, ao + s.2 + l * P.cellsOf e, none⟩)) (hh - l) ((if mx.isSome then m else c') - l)) w := by
                simp only [Instr.sliceAt, Instr.slice, Sem.run_bind, run_underlying hd, Result.andThen_ok, hb, size_run hinf, Sem.run_pure, Option.map_some, add_none]
                generalize (if mx.isSome = true then m else c') = M
                by_cases hM : M = l <;> simp [hM]
              refine ⟨_, hrun, ?_⟩
              split at hv
              · rename_i hml
                subst hml
                obtain rfl : hh = m := by omega
                split at hv
                · rename_i hms
                  cases hv
                  simp only [hms, if_true, empty0, VRel]
                  rw [Nat.sub_self]
                  exact ⟨trivial, trivial, _, _, fun _ => rfl, fun hh => absurd hh (by omega), rfl⟩
                · rename_i hms
                  have hmn : mx = none := by cases mx with | none => rfl | some _ => simp at hms
                  subst hmn
                  have hm := hm rfl
                  subst hm
                  split at hv
                  · rename_i hex
                    cases hv
                    unfold exactAt at hex
                    split at hex
                    · rename_i c el fz x hg
                      cases hex
                      obtain ⟨_, _, _, _, _, _, hx0⟩ := hi.blk _ _ hg b s hr
                      have hs0 : s.1 = 0 := (hx0 rfl).1
                      simp only [Option.isSome_none, Bool.false_eq_true, if_false, empty0, VRel]
                      rw [Nat.sub_self]
                      exact ⟨trivial, trivial, _, _, fun _ => by omega, fun hh => absurd hh (by omega), rfl⟩
                    · cases hex
                  · cases hv
                    rw [add_none]
                    simp only [Option.isSome_none, Bool.false_eq_true, if_false, dangling, VRel]
                    rw [Nat.sub_self]
                    refine ⟨trivial, trivial, _, c' - hh, fun hh => absurd hh (by omega), fun _ => ⟨b, s, hr, by omega, fun hpos => ?_⟩, rfl⟩
                    rw [if_neg (by omega), Nat.add_right_comm]
                  · cases hv
              · rename_i hml
                cases hv
                cases mx with
                | none =>
                  have hm := hm rfl
                  subst hm
                  simp only [Option.isSome_none, Bool.false_eq_true, if_false]
                  rw [if_neg (by omega), add_none]
                  simp only [VRel]
                  exact ⟨b, s, c' - l, hr, by omega, by omega, by rw [Nat.add_right_comm]⟩
                | some y =>
                  simp only [Option.isSome_some, if_true]
                  rw [add_none, if_neg hml]
                  simp only [VRel]
                  exact ⟨b, s, _, hr, Nat.le_refl _, Nat.le_add_right _ _, by rw [Nat.add_right_comm]⟩
            · cases hv
        · cases hv
      · cases hv
    · cases hv
  · cases hv

end Go.Ab
end
section
namespace Go.Ab
open Go.RowKit
variable {P : Program} {B : Nat} {ρ : Rho} {h : AH} {w : World}

theorem eqFields_sound {d : Nat} {eq : TypeId → Value → Value → Option Bool} (heq : ∀ t x y x' y' r, VRel ρ x x' → VRel ρ y y' → eq t x y = some r → (Op.equalIn d t x' y').run P w = .ok r w)
    {xs ys xs' ys' : List Value} (hx : LRel ρ xs xs') (hy : LRel ρ ys ys') : ∀ (fs : List Field) (r : Bool), aeqFields P eq xs ys fs = some r → (Op.eqFields d ⟨xs'⟩ ⟨ys'⟩ fs).run P w = .ok r w
  | [], r, h => by simp only [aeqFields, Option.some.injEq] at h; subst h; simp [Op.eqFields]
  | f :: fs, r, h => by
    simp only [aeqFields] at h
    split at h
    · rename_i hn
      simp only [Op.eqFields, hn, ne_eq, not_true_eq_false, if_false]
      exact eqFields_sound heq hx hy fs r h
    · rename_i hn
      simp only [Op.eqFields, ne_eq, hn, not_false_eq_true, if_true, Sem.run_bind]
      split at h
      · rename_i x y h1 h2
        obtain ⟨x', hxr, hxv⟩ := part_run (P := P) (w := w) h1 hx
        obtain ⟨y', hyr, hyv⟩ := part_run (P := P) (w := w) h2 hy
        simp only [hxr, hyr, Result.andThen_ok]
        split at h
        · rename_i h3
          have := heq _ _ _ _ _ _ hxv hyv h3
          simp only [this, Result.andThen_ok]
          simpa using eqFields_sound heq hx hy fs r h
        · rename_i h3
          cases h
          have := heq _ _ _ _ _ _ hxv hyv h3
          simp [this]
        · cases h
      · cases h
theorem eqElems_sound {d : Nat} {e : TypeId} {eq : TypeId → Value → Value → Option Bool} (heq : ∀ t x y x' y' r, VRel ρ x x' → VRel ρ y y' → eq t x y = some r → (Op.equalIn d t x' y').run P w = .ok r w)
    {xs ys xs' ys' : List Value} (hx : LRel ρ xs xs') (hy : LRel ρ ys ys') : ∀ (is : List Nat) (r : Bool), aeqElems P eq e xs ys is = some r → (Op.eqItems d e (P.cellsOf e) ⟨xs'⟩ ⟨ys'⟩ is).run P w = .ok r w
  | [], r, h => by simp only [aeqElems, Option.some.injEq] at h; subst h; simp [Op.eqItems]
  | i :: is, r, h => by
    simp only [aeqElems] at h
    simp only [Op.eqItems, Sem.run_bind]
    split at h
    · rename_i x y h1 h2
      obtain ⟨x', hxr, hxv⟩ := part_run (P := P) (w := w) h1 hx
      obtain ⟨y', hyr, hyv⟩ := part_run (P := P) (w := w) h2 hy
      simp only [hxr, hyr, Result.andThen_ok]
      split at h
      · rename_i h3
        have := heq _ _ _ _ _ _ hxv hyv h3
        simp only [this, Result.andThen_ok]
        simpa using eqElems_sound heq hx hy is r h
      · rename_i h3
        cases h
        have := heq _ _ _ _ _ _ hxv hyv h3
        simp [this]
      · cases h
    · cases h

set_option maxHeartbeats 1000000 in
theorem aeq_sound (d : Nat) : ∀ (t : TypeId) (x y x' y' : Value) (r : Bool), VRel ρ x x' → VRel ρ y y' → aeq P d t x y = some r → (Op.equalIn d t x' y').run P w = .ok r w := by
  induction d with
  | zero => intro _ _ _ _ _ _ _ _ h; simp [aeq] at h
  | succ d ih =>
    intro t x y x' y' r hx hy h
    unfold aeq at h
    split at h
    · rename_i hd; simp only [VRel] at hx hy; subst hx; subst hy; cases h; simp [Op.equalIn, run_underlying hd]
    · rename_i hd
      simp only [VRel] at hx hy; subst hx; subst hy
      split at h
      · rename_i hk; cases h; simp [Op.equalIn, run_underlying hd, hk]
      · cases h
    · rename_i hd; simp only [VRel] at hx hy; subst hx; subst hy; cases h; simp [Op.equalIn, run_underlying hd]
    · rename_i b hd
      simp only [VRel] at hx; subst hx; cases h
      cases b with
      | none => simp only [VRel] at hy; subst hy; simp [Op.equalIn, run_underlying hd]
      | some b => simp only [VRel] at hy; obtain ⟨_, _, _, rfl⟩ := hy; simp [Op.equalIn, run_underlying hd]
    · rename_i hd
      simp only [VRel] at hx hy; obtain ⟨_, _, _, rfl⟩ := hx; subst hy; cases h; simp [Op.equalIn, run_underlying hd]
    · rename_i hd; simp only [VRel] at hx hy; subst hx; subst hy; cases h; simp [Op.equalIn, run_underlying hd]
    · rename_i hd; simp only [VRel] at hx hy; subst hx; obtain ⟨_, _, rfl⟩ := hy; cases h; simp [Op.equalIn, run_underlying hd]
    · rename_i hd; simp only [VRel] at hx hy; obtain ⟨_, _, rfl⟩ := hx; subst hy; cases h; simp [Op.equalIn, run_underlying hd]
    · rename_i fs xs ys hd
      simp only [VRel] at hx hy
      obtain ⟨xs', hxs, rfl⟩ := hx
      obtain ⟨ys', hys, rfl⟩ := hy
      split at h
      · cases h
      · rename_i hst
        have hf : P.fieldsOf t = fs := by simp [Program.fieldsOf, hd]
        rw [run_equalIn_struct w d t xs' ys' (by rw [hf]; exact hd) (by simpa using hst), hf]
        exact eqFields_sound ih (ARel_iff.1 hxs) (ARel_iff.1 hys) _ _ h
    · rename_i n e xs ys hd
      simp only [VRel] at hx hy
      obtain ⟨xs', hxs, rfl⟩ := hx
      obtain ⟨ys', hys, rfl⟩ := hy
      split at h
      · rename_i he
        obtain ⟨i, hi⟩ := Option.isSome_iff_exists.1 he
        rw [run_equalIn_array w d xs' ys' hd hi]
        exact eqElems_sound ih (ARel_iff.1 hxs) (ARel_iff.1 hys) _ _ h
      · cases h
    · rename_i b _ _ hd
      simp only [VRel] at hx; subst hx; cases h
      cases b with
      | none => simp only [VRel] at hy; subst hy; simp [Op.equalIn, run_underlying hd]
      | some b =>
        obtain ⟨_, _, sp⟩ := b
        cases sp with
        | none => simp only [VRel] at hy; obtain ⟨_, _, _, _, _, _, rfl⟩ := hy; simp [Op.equalIn, run_underlying hd]
        | some _ => simp only [VRel] at hy; obtain ⟨_, _, _, _, _, _, rfl⟩ := hy; simp [Op.equalIn, run_underlying hd]
    · rename_i a _ _ _ _ hd
      simp only [VRel] at hy; subst hy; cases h
      obtain ⟨_, _, sp⟩ := a
      cases sp with
      | none => simp only [VRel] at hx; obtain ⟨_, _, _, _, _, _, rfl⟩ := hx; simp [Op.equalIn, run_underlying hd]
      | some _ => simp only [VRel] at hx; obtain ⟨_, _, _, _, _, _, rfl⟩ := hx; simp [Op.equalIn, run_underlying hd]
    · rename_i b hd
      simp only [VRel] at hx; subst hx; cases h
      cases b with
      | none => simp only [VRel] at hy; subst hy; simp [Op.equalIn, run_underlying hd]
      | some b => simp only [VRel] at hy; obtain ⟨_, _, _, rfl⟩ := hy; simp [Op.equalIn, run_underlying hd]
    · rename_i hd
      simp only [VRel] at hx hy; obtain ⟨_, _, _, rfl⟩ := hx; subst hy; cases h; simp [Op.equalIn, run_underlying hd]
    · rename_i hd; simp only [VRel] at hx hy; subst hx; subst hy; cases h; simp [Op.equalIn, run_underlying hd]
    · rename_i hd; simp only [VRel] at hx hy; subst hx; obtain ⟨_, _, _, _, _, _, rfl⟩ := hy; cases h; simp [Op.equalIn, run_underlying hd]
    · rename_i hd; simp only [VRel] at hx hy; obtain ⟨_, _, _, _, _, _, rfl⟩ := hx; subst hy; cases h; simp [Op.equalIn, run_underlying hd]
    · cases h

end Go.Ab
end
section
namespace Go.Ab
open Go.RowKit
variable {P : Program} {B : Nat} {ρ : Rho} {h : AH} {w : World}

theorem eqAsk_run {op : BinOp} {t : TypeId} {x y : Operand} {a b a' b' : Value} (ha : VRel ρ a a') (hb : VRel ρ b b') (h1 : isTop a = false) (h2 : isTop b = false) (hq : eqAsk P t x y a b = true) :
    (eqGuard op t x y a' b').run P w = .ok () w := by
  cases a with
  | chan r => simp [isTop] at h1
  | nilIface =>
    simp only [VRel] at ha; subst ha
    cases b with
    | chan r => simp [isTop] at h2
    | nilIface =>
      simp only [VRel] at hb; subst hb
      simp only [eqAsk, Bool.or_eq_true] at hq
      cases x with
      | const c => rw [eqGuard_nil_constL]; rfl
      | _ =>
        cases y with
        | const c => rw [eqGuard_nil_constR]; rfl
        | _ => simp [isConst] at hq
    | iface u v => simp only [VRel] at hb; obtain ⟨_, _, rfl⟩ := hb; rw [eqGuard_nil_iface]; rfl
    | agg cs => simp only [VRel] at hb; obtain ⟨_, _, rfl⟩ := hb; cases op <;> rfl
    | tuple cs => simp only [VRel] at hb; obtain ⟨_, _, rfl⟩ := hb; cases op <;> rfl
    | func fn f c => simp only [VRel] at hb; obtain ⟨_, _, _, _, _, _, rfl⟩ := hb; cases op <;> rfl
    | pointer a => cases a with
      | none => simp only [VRel] at hb; subst hb; cases op <;> rfl
      | some a => simp only [VRel] at hb; obtain ⟨_, _, _, rfl⟩ := hb; cases op <;> rfl
    | map a => cases a with
      | none => simp only [VRel] at hb; subst hb; cases op <;> rfl
      | some a => simp only [VRel] at hb; obtain ⟨_, _, _, rfl⟩ := hb; cases op <;> rfl
    | slice a _ _ => cases a with
      | none => simp only [VRel] at hb; subst hb; cases op <;> rfl
      | some a =>
        obtain ⟨_, _, sp⟩ := a
        cases sp with
        | none => simp only [VRel] at hb; obtain ⟨_, _, _, _, _, _, rfl⟩ := hb; cases op <;> rfl
        | some _ => simp only [VRel] at hb; obtain ⟨_, _, _, _, _, _, rfl⟩ := hb; cases op <;> rfl
    | _ => simp only [VRel] at hb; subst hb; cases op <;> rfl
  | iface u v => simp only [VRel] at ha; obtain ⟨_, _, rfl⟩ := ha; rw [eqGuard_at_iface]; rfl
  | tuple cs => simp only [VRel] at ha; obtain ⟨_, _, rfl⟩ := ha; rw [eqGuard_at_tuple]; rfl
  | func fn f c => simp only [VRel] at ha; obtain ⟨_, _, _, _, _, _, rfl⟩ := ha; rw [eqGuard_at_func]; rfl
  | pointer a => cases a with
    | none => simp only [VRel] at ha; subst ha; rw [eqGuard_at_pointer]; rfl
    | some a => simp only [VRel] at ha; obtain ⟨_, _, _, rfl⟩ := ha; rw [eqGuard_at_pointer]; rfl
  | map a => cases a with
    | none => simp only [VRel] at ha; subst ha; rw [eqGuard_at_map]; rfl
    | some a => simp only [VRel] at ha; obtain ⟨_, _, _, rfl⟩ := ha; rw [eqGuard_at_map]; rfl
  | slice a _ _ => cases a with
    | none => simp only [VRel] at ha; subst ha; rw [eqGuard_at_slice]; rfl
    | some a =>
      obtain ⟨_, _, sp⟩ := a
      cases sp with
      | none => simp only [VRel] at ha; obtain ⟨_, _, _, _, _, _, rfl⟩ := ha; rw [eqGuard_at_slice]; rfl
      | some _ => simp only [VRel] at ha; obtain ⟨_, _, _, _, _, _, rfl⟩ := ha; rw [eqGuard_at_slice]; rfl
  | bool _ => simp only [VRel] at ha; subst ha; rw [eqGuard_at_bool]; rfl
  | int _ _ => simp only [VRel] at ha; subst ha; rw [eqGuard_at_int]; rfl
  | float _ _ => simp only [VRel] at ha; subst ha; rw [eqGuard_at_float]; rfl
  | complex _ _ _ => simp only [VRel] at ha; subst ha; rw [eqGuard_at_complex]; rfl
  | string _ => simp only [VRel] at ha; subst ha; rw [eqGuard_at_string]; rfl
  | nilFunc => simp only [VRel] at ha; subst ha; rw [eqGuard_at_nilFunc]; rfl
  | agg cs =>
    simp only [VRel] at ha; obtain ⟨cs', _, rfl⟩ := ha
    cases b with
    | agg ds =>
      simp only [VRel] at hb; obtain ⟨ds', _, rfl⟩ := hb
      simp only [eqAsk, Bool.not_eq_true'] at hq
      exact run_eqGuard_agg w op t x y cs' ds' hq
    | chan r => simp [isTop] at h2
    | iface u v => simp only [VRel] at hb; obtain ⟨_, _, rfl⟩ := hb; cases op <;> rfl
    | tuple cs => simp only [VRel] at hb; obtain ⟨_, _, rfl⟩ := hb; cases op <;> rfl
    | func fn f c => simp only [VRel] at hb; obtain ⟨_, _, _, _, _, _, rfl⟩ := hb; cases op <;> rfl
    | pointer a => cases a with
      | none => simp only [VRel] at hb; subst hb; cases op <;> rfl
      | some a => simp only [VRel] at hb; obtain ⟨_, _, _, rfl⟩ := hb; cases op <;> rfl
    | map a => cases a with
      | none => simp only [VRel] at hb; subst hb; cases op <;> rfl
      | some a => simp only [VRel] at hb; obtain ⟨_, _, _, rfl⟩ := hb; cases op <;> rfl
    | slice a _ _ => cases a with
      | none => simp only [VRel] at hb; subst hb; cases op <;> rfl
      | some a =>
        obtain ⟨_, _, sp⟩ := a
        cases sp with
        | none => simp only [VRel] at hb; obtain ⟨_, _, _, _, _, _, rfl⟩ := hb; cases op <;> rfl
        | some _ => simp only [VRel] at hb; obtain ⟨_, _, _, _, _, _, rfl⟩ := hb; cases op <;> rfl
    | _ => simp only [VRel] at hb; subst hb; cases op <;> rfl

theorem aeq_notTop {d : Nat} {t : TypeId} {x y : Value} {r : Bool} (h : aeq P d t x y = some r) : isTop x = false ∧ isTop y = false := by
  cases d with
  | zero => simp [aeq] at h
  | succ d => unfold aeq at h; split at h <;> first | exact ⟨rfl, rfl⟩ | cases h

theorem ashift_run {op : BinOp} {k k' : IntKind} {t : TypeId} {m n : Int} {v : Value} (hv : ashift op k m n = some v) : (binOp op t (.int k m) (.int k' n)).run P w = .ok v w ∧ ∀ ρ : Rho, VRel ρ v v := by
  unfold ashift at hv
  split at hv
  · cases hv
  · rename_i hn
    split at hv
    · cases hv; exact ⟨by simp [binOp, Op.shift, hn], fun ρ => by simp only [VRel]⟩
    · cases hv; exact ⟨by simp [binOp, Op.shift, hn], fun ρ => by simp only [VRel]⟩
    · cases hv
theorem aint_run {op : BinOp} {k : IntKind} {t : TypeId} {m n : Int} {v : Value} (hv : aint op k m n = some v) : (binOp op t (.int k m) (.int k n)).run P w = .ok v w ∧ ∀ ρ : Rho, VRel ρ v v := by
  cases op <;> simp only [aint, acmp, Option.map_some, Option.some.injEq] at hv <;> try cases hv
  case shl => exact ashift_run hv
  case shr => exact ashift_run hv
  case and => exact ⟨by simp [binOp, Op.intBits], fun ρ => by simp only [VRel]⟩
  case or => exact ⟨by simp [binOp, Op.intBits], fun ρ => by simp only [VRel]⟩
  case xor => exact ⟨by simp [binOp, Op.intBits], fun ρ => by simp only [VRel]⟩
  case andNot => exact ⟨by simp [binOp, Op.intBits], fun ρ => by simp only [VRel]⟩
  case add => exact ⟨by rw [binOp_add]; rfl, fun ρ => by simp only [VRel]⟩
  case sub => exact ⟨by rw [binOp_sub]; rfl, fun ρ => by simp only [VRel]⟩
  case mul => exact ⟨by rw [binOp_mul]; rfl, fun ρ => by simp only [VRel]⟩
  case quo =>
    split at hv
    · cases hv
    · rename_i h; cases hv; exact ⟨by rw [binOp_quo]; simp [Op.intDiv, h], fun ρ => by simp only [VRel]⟩
  case rem =>
    split at hv
    · cases hv
    · rename_i h; cases hv; exact ⟨by rw [binOp_rem]; simp [Op.intDiv, h], fun ρ => by simp only [VRel]⟩
  case eql => exact ⟨by rw [binOp_eql]; rfl, fun ρ => by simp only [VRel]⟩
  case neq => exact ⟨by rw [binOp_neq]; rfl, fun ρ => by simp only [VRel]⟩
  case lss => exact ⟨by rw [binOp_lss]; rfl, fun ρ => by simp only [VRel]⟩
  case leq => exact ⟨by rw [binOp_leq]; rfl, fun ρ => by simp only [VRel]⟩
  case gtr => exact ⟨by rw [binOp_gtr]; rfl, fun ρ => by simp only [VRel]⟩
  case geq => exact ⟨by rw [binOp_geq]; rfl, fun ρ => by simp only [VRel]⟩

theorem astr_run {op : BinOp} {t : TypeId} {m n : ByteArray} {v : Value} (hv : astr op m n = some v) : (binOp op t (.string m) (.string n)).run P w = .ok v w ∧ ∀ ρ : Rho, VRel ρ v v := by
  cases op <;> simp only [astr, Option.some.injEq] at hv <;> try cases hv
  case add =>
    split at hv
    · rename_i h
      cases hv
      refine ⟨?_, fun ρ => by simp only [VRel]⟩
      have : ¬ (((m.size + n.size : Nat) : Int) > IntKind.i64.max) := by rw [IntKind.max_i64]; omega
      simp only [binOp, Op.stringOp]
      rw [if_neg this]; rfl
    · cases hv
  case eql => exact ⟨by simp [binOp, Op.stringOp], fun ρ => by simp only [VRel]⟩
  case neq => exact ⟨by simp [binOp, Op.stringOp], fun ρ => by simp only [VRel]⟩
  case lss => exact ⟨by simp [binOp, Op.stringOp], fun ρ => by simp only [VRel]⟩

theorem binOp_eql_run {t : TypeId} {a b a' b' : Value} {r : Bool} (ha : VRel ρ a a') (hb : VRel ρ b b') (hq : aeq P 10000 t a b = some r) (hni : ∀ k m k' n, ¬ (a = .int k m ∧ b = .int k' n)) (hns : ∀ m n, ¬ (a = .string m ∧ b = .string n)) :
    (binOp .eql t a' b').run P w = .ok (.bool r) w ∧ (binOp .neq t a' b').run P w = .ok (.bool !r) w := by
  have he : (Op.equal t a' b').run P w = .ok r w := aeq_sound 10000 t a b a' b' r ha hb hq
  obtain ⟨h1, h2⟩ := aeq_notTop hq
  have key : ∀ op, (op = BinOp.eql ∨ op = BinOp.neq) → binOp op t a' b' = (if op = .eql then (do pure (.bool (← Op.equal t a' b')) : Sem Value) else do pure (.bool (!(← Op.equal t a' b')))) := by
    intro op hop
    cases a with
    | chan r => simp [isTop] at h1
    | int k m =>
      simp only [VRel] at ha; subst ha
      cases b with
      | int k' n => exact absurd ⟨rfl, rfl⟩ (hni k m k' n)
      | _ =>
        unfold aeq at hq
        split at hq <;> simp_all
    | string m =>
      simp only [VRel] at ha; subst ha
      cases b with
      | string n => exact absurd ⟨rfl, rfl⟩ (hns m n)
      | _ =>
        unfold aeq at hq
        split at hq <;> simp_all
    | float k m => unfold aeq at hq; split at hq <;> simp_all
    | complex k m n => unfold aeq at hq; split at hq <;> simp_all
    | tuple cs => unfold aeq at hq; split at hq <;> simp_all
    | bool c => simp only [VRel] at ha; subst ha; rcases hop with rfl | rfl <;> simp [binOp]
    | nilFunc => simp only [VRel] at ha; subst ha; rcases hop with rfl | rfl <;> simp [binOp]
    | nilIface => simp only [VRel] at ha; subst ha; rcases hop with rfl | rfl <;> simp [binOp]
    | iface u v => simp only [VRel] at ha; obtain ⟨_, _, rfl⟩ := ha; rcases hop with rfl | rfl <;> simp [binOp]
    | func fn f c => simp only [VRel] at ha; obtain ⟨_, _, _, _, _, _, rfl⟩ := ha; rcases hop with rfl | rfl <;> simp [binOp]
    | agg cs => simp only [VRel] at ha; obtain ⟨_, _, rfl⟩ := ha; rcases hop with rfl | rfl <;> simp [binOp]
    | pointer a => cases a with
      | none => simp only [VRel] at ha; subst ha; rcases hop with rfl | rfl <;> simp [binOp]
      | some a => simp only [VRel] at ha; obtain ⟨_, _, _, rfl⟩ := ha; rcases hop with rfl | rfl <;> simp [binOp]
    | map a => cases a with
      | none => simp only [VRel] at ha; subst ha; rcases hop with rfl | rfl <;> simp [binOp]
      | some a => simp only [VRel] at ha; obtain ⟨_, _, _, rfl⟩ := ha; rcases hop with rfl | rfl <;> simp [binOp]
    | slice a _ _ => cases a with
      | none => simp only [VRel] at ha; subst ha; rcases hop with rfl | rfl <;> simp [binOp]
      | some a =>
        obtain ⟨_, _, sp⟩ := a
        cases sp with
        | none => simp only [VRel] at ha; obtain ⟨_, _, _, _, _, _, rfl⟩ := ha; rcases hop with rfl | rfl <;> simp [binOp]
        | some _ => simp only [VRel] at ha; obtain ⟨_, _, _, _, _, _, rfl⟩ := ha; rcases hop with rfl | rfl <;> simp [binOp]
  rw [key .eql (.inl rfl), key .neq (.inr rfl)]
  simp [he]

theorem bin_sound {op : BinOp} {t : TypeId} {x y : Operand} {a b a' b' v : Value} (ha : VRel ρ a a') (hb : VRel ρ b b') (hv : abin P op t x y a b = some v) :
    ∃ v', (do eqGuard op t x y a' b'; binOp op t a' b' : Sem Value).run P w = .ok v' w ∧ VRel ρ v v' := by
  unfold abin at hv
  split at hv
  · rename_i k m k' n
    simp only [VRel] at ha hb; subst ha; subst hb
    split at hv
    · rename_i hk; subst hk
      obtain ⟨h1, h2⟩ := aint_run (P := P) (w := w) (t := t) hv
      exact ⟨v, by simp only [Sem.run_bind, eqGuard_at_int, Sem.run_pure, Result.andThen_ok, h1], h2 ρ⟩
    · obtain ⟨h1, h2⟩ := ashift_run (P := P) (w := w) (t := t) (k' := k') hv
      exact ⟨v, by simp only [Sem.run_bind, eqGuard_at_int, Sem.run_pure, Result.andThen_ok, h1], h2 ρ⟩
  · rename_i m n
    simp only [VRel] at ha hb; subst ha; subst hb
    obtain ⟨h1, h2⟩ := astr_run (P := P) (w := w) (t := t) hv
    exact ⟨v, by simp only [Sem.run_bind, eqGuard_at_string, Sem.run_pure, Result.andThen_ok, h1], h2 ρ⟩
  · rename_i hni hns
    have hni' : ∀ k m k' n, ¬ (a = .int k m ∧ b = .int k' n) := fun k m k' n hh => hni k m k' n hh.1 hh.2
    have hns' : ∀ m n, ¬ (a = .string m ∧ b = .string n) := fun m n hh => hns m n hh.1 hh.2
    split at hv
    · split at hv
      · rename_i hq
        simp only [Option.map_eq_some_iff] at hv
        obtain ⟨r, hr, rfl⟩ := hv
        obtain ⟨h1, h2⟩ := aeq_notTop hr
        refine ⟨.bool r, ?_, by simp only [VRel]⟩
        simp only [Sem.run_bind, eqAsk_run ha hb h1 h2 hq, Result.andThen_ok, (binOp_eql_run ha hb hr hni' hns').1]
      · cases hv
    · split at hv
      · rename_i hq
        simp only [Option.map_eq_some_iff] at hv
        obtain ⟨r, hr, rfl⟩ := hv
        obtain ⟨h1, h2⟩ := aeq_notTop hr
        refine ⟨.bool !r, ?_, by simp only [VRel]⟩
        simp only [Sem.run_bind, eqAsk_run ha hb h1 h2 hq, Result.andThen_ok, (binOp_eql_run ha hb hr hni' hns').2]
      · cases hv
    · cases hv

end Go.Ab
end
section
namespace Go.Ab
open Go.RowKit
variable {P : Program} {B : Nat} {ρ : Rho} {h : AH} {w : World}

theorem getObj_run {r : Nat} {o : Obj} (ho : w.heap[r]? = some o) (hc : ∀ c e f, o ≠ .cells c e f) : (getObj r).run P w = .ok o w := by
  simp only [getObj, Sem.run, ho]
theorem setObj_run {r : Nat} {o o' : Obj} (ho : w.heap[r]? = some o) (hc : ∀ c e f, o ≠ .cells c e f) : (setObj r o').run P w = .ok () { w with heap := w.heap.setIfInBounds r o' } := by
  simp only [setObj, Sem.run, ho]
theorem getMap_run {r : Nat} {es : Array MapEntry} {c : Nat} (ho : w.heap[r]? = some (.map es c)) : (getObj r).run P w = .ok (.map es c) w :=
  getObj_run ho fun _ _ _ hh => by cases hh
theorem setMap_run {r : Nat} {es : Array MapEntry} {c : Nat} {o' : Obj} (ho : w.heap[r]? = some (.map es c)) : (setObj r o').run P w = .ok () { w with heap := w.heap.setIfInBounds r o' } :=
  setObj_run ho fun _ _ _ hh => by cases hh

theorem mkey_of {t e : TypeId} (h : mkey P t = some e) : ∃ key k, P.underlying t = some (.map key e) ∧ P.underlying key = some (.int k) := by
  unfold mkey at h
  split at h
  · rename_i key elem ht
    split at h
    · rename_i k hk
      cases h
      exact ⟨_, _, ht, hk⟩
    · cases h
  · cases h
/-- what is found in the one is found in the other -/
def FRelM (ρ : Rho) : Option (Nat × Value) → Option (Nat × Value) → Prop
  | none, y => y = none
  | some (i, v), y => ∃ v', VRel ρ v v' ∧ y = some (i, v')
theorem mfind_run {kk k : IntKind} {n : Int} : ∀ (es : List (Value × Value × Nat)) (es' : List MapEntry) (i : Nat) (r : Option (Nat × Value)), ERel ρ es es' → mfind k n es i = some r →
    ∃ r', Instr.findNow (.int kk) (.int k n) es' i = some r' ∧ FRelM ρ r r'
  | [], es', i, r, he, hf => by
    simp only [ERel] at he; subst he
    simp only [mfind, Option.some.injEq] at hf; subst hf
    exact ⟨none, rfl, rfl⟩
  | (key, v, b) :: es, es', i, r, he, hf => by
    obtain ⟨k', v', t, h1, h2, h3, rfl⟩ := he
    cases key with
    | int j m =>
      simp only [VRel] at h1; subst h1
      simp only [mfind] at hf
      split at hf
      · rename_i hk
        subst hk
        split at hf
        · rename_i hn
          simp only [Option.some.injEq] at hf; subst hf
          refine ⟨some (i, v'), ?_, v', h2, rfl⟩
          simp [Instr.findNow, Instr.sameNow, hn]
        · rename_i hn
          obtain ⟨r', hr, hrel⟩ := mfind_run (kk := kk) es t (i + 1) r h3 hf
          refine ⟨r', ?_, hrel⟩
          have : (n == m) = false := by simpa using hn
          simp [Instr.findNow, Instr.sameNow, this, hr]
      · cases hf
    | _ => simp [mfind] at hf
theorem findKey_run {kt : TypeId} {kk k : IntKind} {n : Int} (hk : P.underlying kt = some (.int kk)) {es : List (Value × Value × Nat)} {es' : List MapEntry} {r : Option (Nat × Value)} (he : ERel ρ es es') (hf : mfind k n es 0 = some r) :
    ∃ r', (Instr.findKey kt (.int k n) es').run P w = .ok r' w ∧ FRelM ρ r r' := by
  obtain ⟨r', hr, hrel⟩ := mfind_run (kk := kk) es es' 0 r he hf
  refine ⟨r', ?_, hrel⟩
  simp only [Instr.findKey, Sem.run_bind, run_underlying hk, Result.andThen_ok, hr, Sem.run_pure]
theorem checkKey_run {kt : TypeId} {kk k : IntKind} {n : Int} (hk : P.underlying kt = some (.int kk)) (e : Bool) : (Instr.checkKey e 10000 kt (.int k n)).run P w = .ok () w := by
  show (Instr.checkKey e (9999 + 1) kt (.int k n)).run P w = .ok () w
  rw [Instr.checkKey, Sem.run_bind, run_underlying hk]
  rfl
theorem zeroV_run {t : TypeId} {z : Value} (hz : zeroV P t = some z) : (zeroValue t).run P w = .ok z w ∧ VRel ρ z z := by
  unfold zeroV at hz
  cases hi : P.info? t with
  | none => simp [hi] at hz
  | some i =>
    cases hz0 : i.zero with
    | none => simp [hi, hz0] at hz
    | some z0 =>
      simp only [hi, hz0, Option.bind_some] at hz
      split at hz
      · rename_i hp
        cases hz
        exact ⟨by simp [zeroValue, typeInfo, hi, hz0], plainV_rel _ hp⟩
      · cases hz
/-- the entries of a map that is read -/
theorem mes_run (hi : Inv P B ρ h w) {x x' : Value} {es : List (Value × Value × Nat)} (hx : VRel ρ x x') (hm : mes h x = some es) :
    ∃ es', ERel ρ es es' ∧ ((x' = .map none ∧ es' = []) ∨ ∃ r c, x' = .map (some r) ∧ w.heap[r]? = some (.map ⟨es'⟩ c)) := by
  unfold mes at hm
  split at hm
  · cases hm
    simp only [VRel] at hx
    exact ⟨[], rfl, .inl ⟨hx, rfl⟩⟩
  · rename_i r
    split at hm
    · rename_i es0 c hg
      cases hm
      simp only [VRel] at hx
      obtain ⟨b, s, hb, rfl⟩ := hx
      obtain ⟨o', ho, es', hr, rfl⟩ := hi.blk _ _ hg b s hb
      exact ⟨es', hr, .inr ⟨b, c, rfl, ho⟩⟩
    · cases hm
  · cases hm
theorem lookup_run (hi : Inv P B ρ h w) {t : TypeId} {x x' ix ix' v : Value} {ok : Bool} (hx : VRel ρ x x') (hix : VRel ρ ix ix') (hv : alookup P h t x ix ok = some v) :
    ∃ v', (Instr.lookup t x' ix' ok).run P w = .ok v' w ∧ VRel ρ v v' := by
  unfold alookup at hv
  split at hv
  · rename_i e es k n hk hm
    obtain ⟨key, kk, ht, hkt⟩ := mkey_of hk
    obtain ⟨es', he, hx'⟩ := mes_run hi hx hm
    simp only [VRel] at hix; subst hix
    have fin : ∀ (r : Option (Nat × Value)) (r' : Option (Nat × Value)), (Instr.findKey key (.int k n) es').run P w = .ok r' w →
        (Instr.lookup t x' (.int k n) ok).run P w = (match r' with
          | some (_, v) => (.ok (if ok then .tuple #[v, .bool true] else v) w : Result Value)
          | none => ((zeroValue e).run P w).andThen fun z w => .ok (if ok then .tuple #[z, .bool false] else z) w) := by
      intro r r' hf
      rcases hx' with ⟨rfl, rfl⟩ | ⟨r, c, rfl, ho⟩
      · unfold Instr.lookup
        simp only [Sem.run_bind, run_underlying ht, Result.andThen_ok, checkKey_run hkt, hf, Sem.run_pure]
        cases r' with
        | some p => rfl
        | none => simp only [Sem.run_bind, Sem.run_pure, Result.andThen_ok]
      · unfold Instr.lookup
        simp only [Sem.run_bind, run_underlying ht, Result.andThen_ok, getMap_run ho, checkKey_run hkt, hf, Sem.run_pure]
        cases r' with
        | some p => rfl
        | none => simp only [Sem.run_bind, Sem.run_pure, Result.andThen_ok]
    split at hv
    · rename_i i v0 hf
      simp only [Option.some.injEq] at hv
      obtain ⟨r', hr, v', hv', rfl⟩ := findKey_run (w := w) hkt he hf
      refine ⟨_, fin none _ hr, ?_⟩
      subst hv
      cases ok
      · exact hv'
      · show VRel ρ (.tuple ⟨[v0, .bool true]⟩) (.tuple ⟨[v', .bool true]⟩)
        simp only [VRel]
        exact ⟨_, by simp only [ARel]; exact LRel.cons hv' (LRel.cons (by simp only [VRel]) LRel.nil), rfl⟩
    · rename_i hf
      simp only [Option.map_eq_some_iff] at hv
      obtain ⟨z, hz, hv⟩ := hv
      obtain ⟨r', hr, hr'⟩ := findKey_run (w := w) hkt he hf
      simp only [FRelM] at hr'; subst hr'
      obtain ⟨hzr, hzz⟩ := zeroV_run (w := w) (ρ := ρ) hz
      refine ⟨_, by rw [fin none _ hr, hzr]; rfl, ?_⟩
      subst hv
      cases ok
      · exact hzz
      · show VRel ρ (.tuple ⟨[z, .bool false]⟩) (.tuple ⟨[z, .bool false]⟩)
        simp only [VRel]
        exact ⟨_, by simp only [ARel]; exact LRel.cons hzz (LRel.cons (by simp only [VRel]) LRel.nil), rfl⟩
    · cases hv
  · cases hv

theorem ERel.length : ∀ {es : List (Value × Value × Nat)} {es' : List MapEntry}, ERel ρ es es' → es.length = es'.length
  | [], _, he => by simp only [ERel] at he; subst he; rfl
  | (_, _, _) :: es, _, ⟨_, _, t, _, _, h3, rfl⟩ => by simp [ERel.length h3]
theorem ERel.snoc : ∀ {es : List (Value × Value × Nat)} {es' : List MapEntry} {k k' v v' : Value} {c : Nat}, ERel ρ es es' → VRel ρ k k' → VRel ρ v v' →
    ERel ρ (es ++ [(k, v, c)]) (es' ++ [{ key := k', val := v', born := c }])
  | [], _, k, k', v, v', c, he, hk, hv => by simp only [ERel] at he; subst he; exact ⟨k', v', [], hk, hv, rfl, rfl⟩
  | (_, _, _) :: es, _, k, k', v, v', c, ⟨k1, v1, t, h1, h2, h3, rfl⟩, hk, hv => ⟨k1, v1, _, h1, h2, ERel.snoc h3 hk hv, rfl⟩
theorem ERel.erase : ∀ {es : List (Value × Value × Nat)} {es' : List MapEntry} (i : Nat), ERel ρ es es' → ERel ρ (es.eraseIdx i) (es'.eraseIdx i)
  | [], _, i, he => by simp only [ERel] at he; subst he; simp [ERel]
  | (_, _, _) :: es, _, 0, ⟨_, _, t, h1, h2, h3, rfl⟩ => h3
  | (_, _, _) :: es, _, i + 1, ⟨k1, v1, t, h1, h2, h3, rfl⟩ => ⟨k1, v1, _, h1, h2, ERel.erase i h3, rfl⟩
theorem ERel.mod : ∀ {es : List (Value × Value × Nat)} {es' : List MapEntry} (i : Nat) {k k' v v' : Value}, ERel ρ es es' → VRel ρ k k' → VRel ρ v v' →
    ERel ρ (es.modify i fun e => (k, v, e.2.2)) (es'.modify i fun e => { e with key := k', val := v' })
  | [], _, i, k, k', v, v', he, _, _ => by simp only [ERel] at he; subst he; simp [ERel]
  | (_, _, _) :: es, _, 0, k, k', v, v', ⟨_, _, t, h1, h2, h3, rfl⟩, hk, hv => ⟨k', v', t, hk, hv, h3, rfl⟩
  | (_, _, _) :: es, _, i + 1, k, k', v, v', ⟨k1, v1, t, h1, h2, h3, rfl⟩, hk, hv => ⟨k1, v1, _, h1, h2, ERel.mod i h3 hk hv, rfl⟩
/-- what is found lies there, with the key that was asked for -/
theorem findNow_key {kk k : IntKind} {n : Int} : ∀ (es' : List MapEntry) (i : Nat) {j : Nat} {v : Value}, Instr.findNow (.int kk) (.int k n) es' i = some (some (j, v)) → i ≤ j ∧ ∃ e, es'[j - i]? = some e ∧ e.key = .int k n
  | [], i, j, v, h => by simp [Instr.findNow] at h
  | e :: es, i, j, v, h => by
    simp only [Instr.findNow] at h
    split at h
    · rename_i hs
      simp only [Option.some.injEq, Prod.mk.injEq] at h
      obtain ⟨rfl, rfl⟩ := h
      refine ⟨Nat.le_refl _, e, by simp, ?_⟩
      cases hk : e.key with
      | int j m =>
        rw [hk] at hs
        simp only [Instr.sameNow] at hs
        split at hs
        · rename_i hj
          simp only [Option.some.injEq, beq_iff_eq] at hs
          rw [hj, hs]
        · cases hs
      | _ => rw [hk] at hs; simp [Instr.sameNow] at hs
    · obtain ⟨h1, e', h2, h3⟩ := findNow_key es (i + 1) h
      refine ⟨by omega, e', ?_, h3⟩
      have : j - i = (j - (i + 1)) + 1 := by omega
      rw [this]
      simpa using h2
    · cases h
theorem mapLen_run (hi : Inv P B ρ h w) {argTypes : Array TypeId} {ty t k e : TypeId} {x x' : Value} {es : List (Value × Value × Nat)} (h0 : argTypes[0]? = some t) (hd : P.underlying t = some (.map k e)) (hx : VRel ρ x x') (hm : mes h x = some es) :
    (Builtin.len_ argTypes ty #[x']).run P w = .ok (goInt es.length) w := by
  obtain ⟨es', he, ⟨rfl, rfl⟩ | ⟨r, c, rfl, ho⟩⟩ := mes_run hi hx hm
  · have := he.length
    simp [Builtin.len_, h0, run_underlying hd, this]
  · have := he.length
    simp [Builtin.len_, h0, run_underlying hd, getMap_run ho, this]
theorem mapSet_run (hi : Inv P B ρ h w) {t : TypeId} {m m' k k' x x' : Value} {h2 : AH} (hm : VRel ρ m m') (hk : VRel ρ k k') (hx : VRel ρ x x') (hv : amapSet P h t m k x = some h2) :
    ∃ w', (Instr.mapUpdate t m' k' x').run P w = .ok () w' ∧ Evo P B ρ h w ρ h2 w' := by
  unfold amapSet at hv
  split at hv
  · rename_i e r kd n hkey
    obtain ⟨key, kk, ht, hkt⟩ := mkey_of hkey
    split at hv
    · cases hv
    · rename_i hbase
      split at hv
      · rename_i es clock hg
        simp only [Option.map_eq_some_iff] at hv
        obtain ⟨o, ho, rfl⟩ := hv
        simp only [VRel] at hm hk
        subst hk
        obtain ⟨b, s, hb, rfl⟩ := hm
        obtain ⟨o', ho', es', he, rfl⟩ := hi.blk _ _ hg b s hb
        unfold mput at ho
        split at ho
        · rename_i i v0 hf
          simp only [Option.some.injEq] at ho; subst ho
          obtain ⟨r', hr, v', _, rfl⟩ := findKey_run (w := w) hkt he hf
          obtain ⟨r2, hr2, v2, _, rfl⟩ := mfind_run (kk := kk) es es' 0 _ he hf
          obtain ⟨_, e', he', hek⟩ := findNow_key es' 0 hr2
          simp only [Nat.sub_zero] at he'
          have hstay : (Instr.keyThatStays (.int kd n) (.int kd n)).run P w = .ok (.int kd n) w := by
            simp [Instr.keyThatStays, Instr.sameBits]
          refine ⟨{ w with heap := w.heap.setIfInBounds b (.map ((⟨es'⟩ : Array MapEntry).modify i fun e => { e with key := .int kd n, val := x' }) clock) }, ?_, ?_⟩
          · unfold Instr.mapUpdate
            simp only [Sem.run_bind, run_underlying ht, Result.andThen_ok, getMap_run ho', checkKey_run hkt, hr]
            rw [show ((⟨es'⟩ : Array MapEntry)[i]?).map (·.key) = some (.int kd n) by rw [show ((⟨es'⟩ : Array MapEntry)[i]?) = some e' by simpa using he']; simp [hek]]
            simp only [Option.getD_some, hstay, Result.andThen_ok, setMap_run ho']
          · refine evo_set hi (by omega) hg hb ?_ rfl rfl rfl rfl
            refine ⟨_, ERel.mod i he (k' := .int kd n) (v' := x') (by simp only [VRel]) hx, ?_⟩
            congr 1
            apply Array.ext'
            simp
        · rename_i hf
          simp only [Option.some.injEq] at ho; subst ho
          obtain ⟨r', hr, hr'⟩ := findKey_run (w := w) hkt he hf
          simp only [FRelM] at hr'; subst hr'
          refine ⟨{ w with heap := w.heap.setIfInBounds b (.map ((⟨es'⟩ : Array MapEntry).push { key := .int kd n, val := x', born := clock }) (clock + 1)) }, ?_, ?_⟩
          · unfold Instr.mapUpdate
            simp only [Sem.run_bind, run_underlying ht, Result.andThen_ok, getMap_run ho', checkKey_run hkt, hr, setMap_run ho']
          · refine evo_set hi (by omega) hg hb ?_ rfl rfl rfl rfl
            refine ⟨_, ERel.snoc he (k' := .int kd n) (v' := x') (by simp only [VRel]) hx, ?_⟩
            simp
        · cases ho
      · cases hv
  · cases hv
theorem mapDel_run (hi : Inv P B ρ h w) {argTypes : Array TypeId} {ty t : TypeId} {m m' k k' : Value} {h2 : AH} (h0 : argTypes[0]? = some t) (hm : VRel ρ m m') (hk : VRel ρ k k') (hv : amapDel P h t m k = some h2) :
    ∃ w', (Builtin.delete_ argTypes ty ⟨[m', k']⟩).run P w = .ok (.tuple #[]) w' ∧ Evo P B ρ h w ρ h2 w' := by
  unfold amapDel at hv
  split at hv
  · rename_i e kd n hkey
    obtain ⟨key, kk, ht, hkt⟩ := mkey_of hkey
    cases hv
    simp only [VRel] at hm hk
    subst hm hk
    exact ⟨w, by simp [Builtin.delete_, h0, run_underlying ht, checkKey_run hkt], Evo.refl hi⟩
  · rename_i e r kd n hkey
    obtain ⟨key, kk, ht, hkt⟩ := mkey_of hkey
    split at hv
    · cases hv
    · rename_i hbase
      split at hv
      · rename_i es clock hg
        simp only [VRel] at hm hk
        subst hk
        obtain ⟨b, s, hb, rfl⟩ := hm
        obtain ⟨o', ho', es', he, rfl⟩ := hi.blk _ _ hg b s hb
        split at hv
        · rename_i i v0 hf
          simp only [Option.some.injEq] at hv; subst hv
          obtain ⟨r', hr, v', _, rfl⟩ := findKey_run (w := w) hkt he hf
          refine ⟨{ w with heap := w.heap.setIfInBounds b (.map ((⟨es'⟩ : Array MapEntry).eraseIdxIfInBounds i) clock) }, ?_, ?_⟩
          · simp [Builtin.delete_, h0, run_underlying ht, checkKey_run hkt, getMap_run ho', hr, setMap_run ho']
          · refine evo_set hi (by omega) hg hb ?_ rfl rfl rfl rfl
            refine ⟨_, ERel.erase i he, ?_⟩
            congr 1
            apply Array.ext'
            simp
        · rename_i hf
          simp only [Option.some.injEq] at hv; subst hv
          obtain ⟨r', hr, hr'⟩ := findKey_run (w := w) hkt he hf
          simp only [FRelM] at hr'; subst hr'
          refine ⟨{ w with heap := w.heap.setIfInBounds b (.map ⟨es'⟩ clock) }, ?_, ?_⟩
          · simp [Builtin.delete_, h0, run_underlying ht, checkKey_run hkt, getMap_run ho', hr, setMap_run ho']
          · exact evo_set hi (by omega) hg hb ⟨_, he, rfl⟩ rfl rfl rfl rfl
        · cases hv
      · cases hv
  · cases hv

end Go.Ab
end
section
namespace Go.Ab
open Go.RowKit
variable {P : Program} {B : Nat} {ρ : Rho} {h : AH} {w : World}

theorem ARel.map {α : Type} {f g : α → Value} (hfg : ∀ x, VRel ρ (f x) (g x)) (a : Array α) : ARel ρ (a.map f) (a.map g) := by
  rw [ARel_iff]; simp only [Array.toList_map]; exact LRel.map_ev hfg _

theorem strOf_slice {x x' v : Value} (hx : VRel ρ x x') (hv : strOf h x = some v) : ∃ a n c, x' = .slice a n c := by
  unfold strOf at hv
  split at hv
  · simp only [VRel] at hx; exact ⟨_, _, _, hx⟩
  · rename_i a n c
    obtain ⟨_, _, sp⟩ := a
    cases sp with
    | none => simp only [VRel] at hx; obtain ⟨_, _, _, _, _, _, rfl⟩ := hx; exact ⟨_, _, _, rfl⟩
    | some _ => simp only [VRel] at hx; obtain ⟨_, _, _, _, _, _, rfl⟩ := hx; exact ⟨_, _, _, rfl⟩
  · cases hv
theorem bytes_loop {f : Value → ByteArray → Sem (ForInStep ByteArray)} (hf : ∀ n s, f (.int .u8 n) s = pure (.yield (s.push (UInt8.ofNat n.toNat)))) : ∀ (l l' : List Value) (bs : List UInt8) (s : ByteArray), LRel ρ l l' → bytesOfL l = some bs →
    (forIn (m := Sem) l' s f).run P w = .ok ⟨⟨s.data.toList ++ bs⟩⟩ w
  | [], l', bs, s, hl, hb => by
    simp only [LRel] at hl; subst hl
    simp only [bytesOfL, Option.some.injEq] at hb; subst hb
    simp
  | v :: l, l', bs, s, hl, hb => by
    simp only [LRel] at hl
    obtain ⟨v', t', h1, h2, rfl⟩ := hl
    simp only [bytesOfL] at hb
    split at hb
    · rename_i b r hb1 hb2
      cases hb
      unfold byteOf at hb1
      split at hb1
      · cases hb1
        simp only [VRel] at h1; subst h1
        simp only [List.forIn_cons, Sem.run_bind, hf, Sem.run_pure, Result.andThen_ok]
        rw [bytes_loop hf l t' r _ h2 hb2]
        simp
      · cases hb1
    · cases hb
theorem strOf_run (hi : Inv P B ρ h w) {x x' v : Value} (hx : VRel ρ x x') (hv : strOf h x = some v) : ∃ v', (Conv.bytesToString x').run P w = .ok v' w ∧ VRel ρ v v' := by
  unfold strOf at hv
  split at hv
  · cases hv; simp only [VRel] at hx; subst hx; exact ⟨.string .empty, by simp [Conv.bytesToString], by simp only [VRel]⟩
  · rename_i a n c
    split at hv
    · rename_i hn
      subst hn
      cases hv
      refine ⟨.string .empty, ?_, by simp only [VRel]⟩
      obtain ⟨_, _, sp⟩ := a
      cases sp with
      | none => simp only [VRel] at hx; obtain ⟨_, _, _, _, _, _, rfl⟩ := hx; simp [Conv.bytesToString, loadCells, loadCellsFrom]
      | some _ => simp only [VRel] at hx; obtain ⟨_, _, _, _, _, _, rfl⟩ := hx; simp [Conv.bytesToString, loadCells, loadCellsFrom]
    · simp only [Option.map_eq_some_iff, Option.bind_eq_some_iff] at hv
      obtain ⟨bs, ⟨l, hl, hb⟩, rfl⟩ := hv
      obtain ⟨i, o, sp⟩ := a
      cases sp with
      | some _ => simp [loadCellsAt] at hl
      | none =>
        simp only [VRel] at hx; obtain ⟨b, s, c', hr, _, _, rfl⟩ := hx
        obtain ⟨l', hrun, hrel, _, _⟩ := loadCells_run hi (a := ⟨i, o, none⟩) hr hl
        refine ⟨.string ⟨⟨bs⟩⟩, ?_, by simp only [VRel]⟩
        simp only [Conv.bytesToString, Sem.run_bind, hrun, Result.andThen_ok]
        rw [← Array.forIn_toList]
        simp only [Sem.run_pure]
        rw [bytes_loop (P := P) (w := w) (fun n s => by rfl) l l' bs .empty hrel hb]
        rfl
  · cases hv

set_option maxHeartbeats 1000000 in
theorem light_sound (hi : Inv P B ρ h w) {ev ev' : Operand → Value} (hev : ∀ x, VRel ρ (ev x) (ev' x)) (o : Oper) {v : Value} (hv : alight P ev h o.op = some v) :
    ∃ v', (execOp ev' o).run P w = .ok (.value v') w ∧ VRel ρ v v' := by
  obtain ⟨dst, op, ty, pos, after, guard⟩ := o
  simp only at hv
  cases op with
  | move x => simp only [alight, Option.some.injEq] at hv; subst hv; exact ⟨_, rfl, hev x⟩
  | assign x => simp only [alight, Option.some.injEq] at hv; subst hv; exact ⟨_, rfl, hev x⟩
  | pick c a b =>
    simp only [alight] at hv
    split at hv
    · rename_i t hc
      have h1 := hev c
      rw [hc] at h1
      simp only [VRel] at h1
      simp only [Option.some.injEq] at hv; subst hv
      refine ⟨if t then ev' a else ev' b, ?_, by cases t <;> simp [hev]⟩
      simp [execOp, h1, asBool]
    · cases hv
  | build t parts =>
    simp only [alight] at hv
    obtain ⟨v', hr, hrel⟩ := build_sound (w := w) (parts' := parts.map fun p => (p.1, ev' p.2)) (by
      simp only [Array.toList_map]; exact PRel.map (f := fun p : Nat × Operand => ev p.2) (g := fun p => ev' p.2) (k := fun p => p.1) (fun p => hev p.2) _) hv
    refine ⟨v', ?_, hrel⟩
    show (do pure (Next.value (← Instr.build t (parts.map fun (i, x) => (i, ev' x)))) : Sem Next).run P w = _
    simp only [Sem.run_bind]
    rw [show (parts.map fun (x : Nat × Operand) => (x.1, ev' x.2)) = parts.map (fun p => (p.1, ev' p.2)) from rfl, hr]
    rfl
  | load t a =>
    simp only [alight] at hv
    split at hv
    · rename_i a0 ha
      have h1 := hev a
      rw [ha] at h1
      obtain ⟨v', hr, hrel⟩ := load_sound hi h1 hv
      exact ⟨v', by simp [execOp, hr], hrel⟩
    · cases hv
  | nilCheck x =>
    simp only [alight] at hv
    split at hv
    · rename_i a ha
      have h1 := hev x
      rw [ha] at h1
      simp only [Option.some.injEq] at hv; subst hv
      have h2 := h1
      simp only [VRel] at h1
      obtain ⟨b, s, hb, he⟩ := h1
      exact ⟨ev' x, by simp [execOp, he], h2⟩
    · rename_i f a b ha
      have h1 := hev x
      rw [ha] at h1
      simp only [Option.some.injEq] at hv; subst hv
      have h2 := h1
      simp only [VRel, FRel] at h1
      obtain ⟨_, _, _, rfl, _, _, he⟩ := h1
      exact ⟨ev' x, by simp [execOp, he], h2⟩
    · rename_i f a b ha
      have h1 := hev x
      rw [ha] at h1
      simp only [Option.some.injEq] at hv; subst hv
      have h2 := h1
      simp only [VRel, FRel] at h1
      obtain ⟨_, _, _, ⟨_, _, _, rfl⟩, _, _, he⟩ := h1
      exact ⟨ev' x, by simp [execOp, he], h2⟩
    · cases hv
  | binOp op t x y yt =>
    simp only [alight] at hv
    obtain ⟨v', hr, hrel⟩ := bin_sound (P := P) (w := w) (hev x) (hev y) hv
    refine ⟨v', ?_, hrel⟩
    show (do pure (Next.value (← (do eqGuard op t x y (ev' x) (ev' y); binOp op t (ev' x) (ev' y)))) : Sem Next).run P w = _
    rw [Sem.run_bind, hr]
    rfl
  | unOp op t x =>
    simp only [alight] at hv
    split at hv
    · rename_i k n hx
      have h1 := hev x
      rw [hx] at h1
      simp only [VRel] at h1
      simp only [Option.some.injEq] at hv; subst hv
      exact ⟨.int k (k.wrap (0 - n)), by simp [execOp, h1, Op.unary, Op.intArith], by simp only [VRel]⟩
    · rename_i b hx
      have h1 := hev x
      rw [hx] at h1
      simp only [VRel] at h1
      simp only [Option.some.injEq] at hv; subst hv
      exact ⟨.bool !b, by simp [execOp, h1, Op.unary], by simp only [VRel]⟩
    · cases hv
  | convert s d x =>
    simp only [alight] at hv
    split at hv
    · rename_i ds k _ n hs hd hx
      have h1 := hev x
      rw [hx] at h1
      simp only [VRel] at h1
      simp only [Option.some.injEq] at hv; subst hv
      exact ⟨.int k (k.wrap n), by simp [execOp, h1, convert, run_underlying hs, run_underlying hd, Conv.intToInt], by simp only [VRel]⟩
    · rename_i z hs hd hx
      have h1 := hev x
      rw [hx] at h1
      simp only [VRel] at h1
      simp only [Option.some.injEq] at hv; subst hv
      exact ⟨.string z, by simp [execOp, h1, convert, run_underlying hs, run_underlying hd], by simp only [VRel]⟩
    · rename_i e hs hd
      split at hv
      · rename_i he
        obtain ⟨v', hr, hrel⟩ := strOf_run hi (hev x) hv
        refine ⟨v', ?_, hrel⟩
        have hcv : (convert s d (ev' x)).run P w = .ok v' w := by
          obtain ⟨a, n, c, hx⟩ := strOf_slice (hev x) hv
          rw [hx] at hr ⊢
          simp [convert, run_underlying hs, run_underlying hd, run_underlying he, hr]
        simp [execOp, hcv]
      · cases hv
    · cases hv
  | makeInterface t x =>
    simp only [alight] at hv
    split at hv
    · cases hv
    · rename_i d hd hni
      simp only [Option.some.injEq] at hv; subst hv
      refine ⟨.iface t (ev' x), ?_, by simp only [VRel]; exact ⟨_, hev x, rfl⟩⟩
      have : P.concrete t = true := by
        unfold Program.concrete
        rw [hni]
        cases d <;> first | rfl | exact absurd rfl (hd _)
      simp [execOp, run_makeInterface w t (ev' x) this]
    · cases hv
  | makeFunc fn first captured =>
    simp only [alight] at hv
    split at hv
    · rename_i f
      simp only [Option.some.injEq] at hv; subst hv
      refine ⟨.func (.func f) (first.map ev') (captured.map ev'), by simp [execOp, Instr.makeFunc], ?_⟩
      simp only [VRel, FRel]
      exact ⟨_, _, _, rfl, ARel.map hev _, ARel.map hev _, rfl⟩
    · cases hv
  | slice t x lo hi_ mx =>
    simp only [alight] at hv
    obtain ⟨v', hr, hrel⟩ := slice_sound hi (hev x) (ORel.map hev lo) (ORel.map hev hi_) (ORel.map hev mx) hv
    exact ⟨v', by simp [execOp, hr], hrel⟩
  | fieldAddr s x f =>
    simp only [alight] at hv
    split at hv
    · rename_i fs a hd hx
      have h1 := hev x
      rw [hx] at h1
      simp only [VRel] at h1
      obtain ⟨b, sp, hb, he⟩ := h1
      split at hv
      · rename_i fd hf
        split at hv
        · cases hv
        · rename_i hn
          simp only [Option.some.injEq] at hv; subst hv
          obtain ⟨i, hinf, _⟩ := info_of_cells hn
          refine ⟨.pointer (some (Addr.add ⟨b, a.off + sp.2, a.spot⟩ fd.offset)), ?_, ?_⟩
          · simp [execOp, he, Instr.fieldAt, run_underlying hd, hf, Instr.sureAddr, fieldPlace, size_run hinf, hn]
          · simp only [VRel]
            refine ⟨b, sp, ?_, ?_⟩
            · unfold Addr.add; split <;> exact hb
            · unfold Addr.add; split <;> simp [Nat.add_right_comm]
      · cases hv
    · cases hv
  | field t x f =>
    simp only [alight] at hv
    split at hv
    · rename_i fs cs hd hx
      have h1 := hev x
      rw [hx] at h1
      simp only [VRel] at h1
      obtain ⟨cs', hc, he⟩ := h1
      split at hv
      · rename_i fd hf
        obtain ⟨v', hr, hrel⟩ := part_run (P := P) (w := w) hv (ARel_iff.1 hc)
        exact ⟨v', by simp [execOp, he, Instr.field, run_underlying hd, hf, asAgg, hr], hrel⟩
      · cases hv
    · cases hv
  | indexAddr t x i =>
    simp only [alight] at hv
    split at hv
    · rename_i n e a k j hd hx hix
      have h1 := hev x
      have h2 := hev i
      rw [hx] at h1
      rw [hix] at h2
      simp only [VRel] at h1 h2
      obtain ⟨b, sp, hb, he⟩ := h1
      split at hv
      · rename_i hc
        simp only [Option.some.injEq] at hv; subst hv
        obtain ⟨inf, hinf⟩ := Option.isSome_iff_exists.1 hc.2.2
        refine ⟨.pointer (some (Addr.add ⟨b, a.off + sp.2, a.spot⟩ (j.toNat * P.cellsOf e))), ?_, ?_⟩
        · simp [execOp, he, h2, Instr.indexAt, asIntOf, run_underlying hd, Instr.sureAddr, hc.1, hc.2.1, size_run hinf]
        · simp only [VRel]
          refine ⟨b, sp, ?_, ?_⟩
          · unfold Addr.add; split <;> exact hb
          · unfold Addr.add; split <;> simp [Nat.add_right_comm]
      · cases hv
    · rename_i e a n c k j hd hx hix
      have h1 := hev x
      have h2 := hev i
      rw [hx] at h1
      rw [hix] at h2
      split at hv
      · rename_i hc
        obtain ⟨ab, ao, asp⟩ := a
        obtain rfl : asp = none := hc.2.2.2
        simp only [VRel] at h1 h2
        obtain ⟨b, sp, c', hb, _, _, he⟩ := h1
        simp only [Option.some.injEq] at hv; subst hv
        obtain ⟨inf, hinf⟩ := Option.isSome_iff_exists.1 hc.2.2.1
        refine ⟨.pointer (some (Addr.add ⟨b, ao + sp.2, none⟩ (j.toNat * P.cellsOf e))), ?_, ?_⟩
        · simp [execOp, he, h2, Instr.indexAt, asIntOf, run_underlying hd, hc.1, hc.2.1, size_run hinf]
        · rw [add_none, add_none]
          simp only [VRel]
          exact ⟨b, sp, hb, by rw [Nat.add_right_comm]⟩
      · cases hv
    · cases hv
  | index t x i =>
    simp only [alight] at hv
    split at hv
    · rename_i n e cs k j hd hx hix
      have h1 := hev x
      have h2 := hev i
      rw [hx] at h1
      rw [hix] at h2
      simp only [VRel] at h1 h2
      obtain ⟨cs', hc', he⟩ := h1
      split at hv
      · rename_i hc
        obtain ⟨inf, hinf⟩ := Option.isSome_iff_exists.1 hc.2.2
        obtain ⟨v', hr, hrel⟩ := part_run (P := P) (w := w) hv (ARel_iff.1 hc')
        exact ⟨v', by simp [execOp, he, h2, Instr.index, asIntOf, run_underlying hd, hc.1, hc.2.1, size_run hinf, hr], hrel⟩
      · cases hv
    · rename_i s k j hd hx hix
      have h1 := hev x
      have h2 := hev i
      rw [hx] at h1
      rw [hix] at h2
      simp only [VRel] at h1 h2
      split at hv
      · rename_i hc
        simp only [Option.map_eq_some_iff] at hv
        obtain ⟨u, hu, rfl⟩ := hv
        exact ⟨.int .u8 u.toNat, by simp [execOp, h1, h2, Instr.index, asIntOf, run_underlying hd, hc, hu], by simp only [VRel]⟩
      · cases hv
    · cases hv
  | extract t i =>
    simp only [alight] at hv
    split at hv
    · rename_i vs ht
      have h1 := hev t
      rw [ht] at h1
      simp only [VRel] at h1
      obtain ⟨vs', hc, he⟩ := h1
      obtain ⟨v', hv', hrel⟩ := (ARel_iff.1 hc).get hv
      exact ⟨v', by simp only [Array.getElem?_toList] at hv'; simp [execOp, he, Instr.extract, hv'], hrel⟩
    · cases hv
  | lookup t x ix ok =>
    simp only [alight] at hv
    obtain ⟨v', hr, hrel⟩ := lookup_run hi (hev x) (hev ix) hv
    exact ⟨v', by simp [execOp, hr], hrel⟩
  | _ => simp only [alight] at hv; cases hv

/-! ### One block more -/
theorem map_range0 (f : Nat → Value) : (Array.range 0).map f = #[] := by rw [Array.range_zero']; simp
theorem zeroCells_eq {z : List Value} {size : Nat} (hz : z.length = size) (n : Nat) : ((Array.range (n * size)).map fun i => (⟨z⟩ : Array Value)[i % (⟨z⟩ : Array Value).size]!) = ⟨zerosA z n⟩ := by
  apply Array.ext'
  simp only [Array.toList_map, Array.toList_range]
  show (List.range (n * size)).map (fun i => (⟨z⟩ : Array Value)[i % z.length]!) = zerosA z n
  subst hz
  induction n with
  | zero => simp [zerosA]
  | succ n ih =>
    rw [Nat.succ_mul, List.range_add, List.map_append, ih]
    unfold zerosA
    rw [List.replicate_succ', List.flatten_append]
    congr 1
    simp only [List.flatten_cons, List.flatten_nil, List.append_nil, List.map_map]
    apply List.ext_getElem
    · simp
    · intro j h1 h2
      simp at h1 h2
      simp only [List.getElem_map, List.getElem_range, Function.comp]
      have hm : (n * z.length + j) % z.length = j := by rw [Nat.mul_comm, Nat.mul_add_mod, Nat.mod_eq_of_lt (by omega)]
      rw [hm]
      simp [h1]
theorem zerosA_rel {z : List Value} (hz : LRel ρ z z) (n : Nat) : LRel ρ (zerosA z n) (zerosA z n) := by
  unfold zerosA
  induction n with
  | zero => exact LRel.nil
  | succ n ih => rw [List.replicate_succ, List.flatten_cons]; exact hz.append ih

/-- what a new block's number is to the model -/
theorem alloc_sound {ev ev' : Operand → Value} (hev : ∀ x, VRel ρ (ev x) (ev' x)) (o : Oper) {b : Blk} {f : Nat → Value} (hv : aalloc P ev o.op = some (b, f)) :
    ∃ (o' : Obj) (g : Nat → Value), BRel P ρ (0, 0) b o' ∧ (execOp ev' o).run P w = .ok (.value (g w.heap.size)) (w.alloc o') ∧ ∀ (ρ' : Rho) i s, s.2 = 0 → ρ' i = some (w.heap.size, s) → VRel ρ' (f i) (g w.heap.size) := by
  obtain ⟨dst, op, ty, pos, after, guard⟩ := o
  simp only at hv
  cases op with
  | alloc e =>
    simp only [aalloc, Option.map_eq_some_iff] at hv
    obtain ⟨z, hz, hv⟩ := hv
    cases hv
    obtain ⟨i, zv, hi, _, hzr, hzc, hzl, hzz⟩ := zero_run (w := w) hz
    refine ⟨.cells zv.cells e, fun n => .pointer (some ⟨n, 0, none⟩), ⟨zv.cells, rfl, ?_, ?_, fun _ => ⟨rfl, rfl⟩⟩, ?_, ?_⟩
    · simp only [List.drop_zero]; rw [hzc, List.take_of_length_le (Nat.le_refl _)]; exact hzz ρ
    · rw [← hzc]; simp
    · simp [execOp, Instr.alloc, hzr, newVar, newRow]
    · intro ρ' i s hs hr; simp only [VRel]; exact ⟨_, _, hr, by rw [hs]⟩
  | box e x =>
    simp only [aalloc, Option.map_eq_some_iff] at hv
    obtain ⟨l, hl, hv⟩ := hv
    cases hv
    unfold cellsOfV at hl
    split at hl
    · cases hl
    · rename_i ht
      cases hl
      have hc := (hev x).cells (by simpa using ht)
      have hcl := hc.length
      refine ⟨.cells (ev' x).cells e, fun n => .pointer (some ⟨n, 0, none⟩), ⟨_, rfl, ?_, ?_, fun _ => ⟨rfl, rfl⟩⟩, ?_, ?_⟩
      · simp only [List.drop_zero]; rw [← hcl, List.take_of_length_le (Nat.le_refl _)]; exact hc
      · simp at hcl ⊢; omega
      · simp [execOp, Instr.box, newVar, newRow]
      · intro ρ' i s hs hr; simp only [VRel]; exact ⟨_, _, hr, by rw [hs]⟩
  | buildSlice t len parts =>
    simp only [aalloc] at hv
    split at hv
    · rename_i e hd
      split at hv
      · rename_i z hz
        obtain ⟨i, zv, hi, _, hzr, hzc, hzl, hzz⟩ := zero_run (w := w) hz
        split at hv
        · rename_i hle
          simp only [Option.map_eq_some_iff] at hv
          obtain ⟨l, hl, hv⟩ := hv
          cases hv
          obtain ⟨r', hr', hrel⟩ := fill_rel _ (parts.map fun p => (p.1, ev' p.2)).toList _ _ l (by
            simp only [Array.toList_map]; exact PRel.map (f := fun p : Nat × Operand => ev p.2) (g := fun p => ev' p.2) (k := fun p => p.1) (fun p => hev p.2) _) (zerosA_rel (hzz ρ) len) hl
          have hrl := hrel.length
          have hz' : zv.cells = ⟨z⟩ := by rw [← hzc]
          refine ⟨.cells ⟨r'⟩ e, fun n => .slice (some ⟨n, 0, none⟩) len len, ⟨_, rfl, ?_, ?_, fun _ => ⟨rfl, rfl⟩⟩, ?_, ?_⟩
          · simp only [List.drop_zero]; rw [← hrl, List.take_of_length_le (Nat.le_refl _)]; exact hrel
          · show 0 + l.length + 0 * _ ≤ r'.length; omega
          · have hle' : ¬ len * P.cellsOf e > 2 ^ 24 := by omega
            have hr2 : Instr.fill (fun i => some (i * P.cellsOf e, P.cellsOf e)) ⟨zerosA z len⟩ (parts.map fun (x : Nat × Operand) => (x.1, ev' x.2)).toList = some ⟨r'⟩ := hr'
            show (do pure (Next.value (← Instr.buildSlice t len (parts.map fun (i, x) => (i, ev' x)))) : Sem Next).run P w = _
            simp only [Instr.buildSlice, Sem.run_bind, run_underlying hd, Result.andThen_ok, size_run hi, hle', if_false]
            have hc := zeroCells_eq hzl len
            by_cases h0 : len * P.cellsOf e = 0
            · have hnil : (⟨zerosA z len⟩ : Array Value) = #[] := by rw [← hc, h0, map_range0]
              rw [hnil] at hr2
              simp only [h0, if_true, Sem.run_bind, Sem.run_pure, Result.andThen_ok]
              rw [map_range0, hr2]
              simp [newRow]
            · simp only [h0, if_false, Sem.run_bind, hzr, Sem.run_pure, Result.andThen_ok, hz']
              rw [hc, hr2]
              simp [newRow]
          · intro ρ' i s hs hr; simp only [VRel]; exact ⟨_, _, _, hr, Nat.le_refl _, Nat.le_add_right _ _, by rw [hs]⟩
        · cases hv
      · cases hv
    · cases hv
  | makeSlice t l c =>
    simp only [aalloc] at hv
    split at hv
    · rename_i e k1 ll k2 cc hd hl hc
      split at hv
      · rename_i z hz
        obtain ⟨i, zv, hi, _, hzr, hzc, hzl, hzz⟩ := zero_run (w := w) hz
        split at hv
        · rename_i hcond
          obtain ⟨h0, h1, h2, h3⟩ := hcond
          simp only [Option.some.injEq, Prod.mk.injEq] at hv
          obtain ⟨rfl, rfl⟩ := hv
          have hl' := hev l
          have hc' := hev c
          rw [hl] at hl'
          rw [hc] at hc'
          simp only [VRel] at hl' hc'
          have hz' : zv.cells = ⟨z⟩ := by rw [← hzc]
          have hb : i.bytes = P.bytesOf e := by simp [Program.bytesOf, hi]
          refine ⟨.cells ⟨zerosA z cc.toNat⟩ e, fun n => .slice (some ⟨n, 0, none⟩) ll.toNat cc.toNat, ⟨_, rfl, ?_, ?_, fun _ => ⟨rfl, rfl⟩⟩, ?_, ?_⟩
          · simp only [List.drop_zero]; rw [List.take_of_length_le (Nat.le_refl _)]; exact zerosA_rel (hzz ρ) _
          · show 0 + (zerosA z cc.toNat).length + 0 * _ ≤ (zerosA z cc.toNat).length; omega
          · have hwl : IntKind.i64.wrap ll = ll := IntWalk.i64_in _ ⟨by omega, by omega⟩
            have hwc : IntKind.i64.wrap cc = cc := IntWalk.i64_in _ ⟨by omega, by omega⟩
            have t1 : (typeInfo e).run P w = .ok i w := by simp [typeInfo, hi]
            have hno : ((decide (cc < 0) || decide ((i.bytes : Int) * cc > 2 ^ 48)) || decide (ll < 0) || decide (ll > cc)) = false := by
              rw [hb]
              have e1 : decide (cc < 0) = false := by simp; omega
              have e2 : decide ((P.bytesOf e : Int) * cc > 2 ^ 48) = false := by simp; omega
              have e3 : decide (ll < 0) = false := by simp; omega
              have e4 : decide (ll > cc) = false := by simp; omega
              rw [e1, e2, e3, e4]; rfl
            simp only [execOp, hl', hc', Instr.makeSlice, Sem.run_bind, run_underlying hd, Result.andThen_ok, asInt, asIntOf, Sem.run_pure, t1, hwl, hwc, hno, Bool.false_eq_true, if_false, run_askRoom, size_run hi]
            have hcz := zeroCells_eq hzl cc.toNat
            by_cases h0 : cc.toNat * P.cellsOf e = 0
            · have hnil : (⟨zerosA z cc.toNat⟩ : Array Value) = #[] := by rw [← hcz, h0, map_range0]
              rw [hnil]
              simp only [h0, if_true, Sem.run_bind, Sem.run_pure, Result.andThen_ok]
              rw [map_range0]
              simp [newRow]
            · simp only [h0, if_false, Sem.run_bind, hzr, Sem.run_pure, Result.andThen_ok, hz']
              rw [hcz]
              simp [newRow]
          · intro ρ' i s hs hr; simp only [VRel]; exact ⟨_, _, _, hr, Nat.le_refl _, Nat.le_add_right _ _, by rw [hs]⟩
        · cases hv
      · cases hv
    · cases hv
  | makeMap t r =>
    cases r with
    | none =>
      simp only [aalloc, Option.some.injEq, Prod.mk.injEq] at hv
      obtain ⟨rfl, rfl⟩ := hv
      refine ⟨.map #[] 0, fun n => .map (some n), ⟨[], rfl, rfl⟩, rfl, ?_⟩
      intro ρ' i s hs hr; simp only [VRel]; exact ⟨_, _, hr, rfl⟩
    | some x =>
      simp only [aalloc] at hv
      split at hv
      · rename_i key elem k n hd hx
        simp only [Option.some.injEq, Prod.mk.injEq] at hv
        obtain ⟨rfl, rfl⟩ := hv
        have h1 := hev x
        rw [hx] at h1
        simp only [VRel] at h1
        refine ⟨.map #[] 0, fun n => .map (some n), ⟨[], rfl, rfl⟩, by simp [execOp, Instr.makeMap, h1, run_underlying hd, asInt, asIntOf], ?_⟩
        intro ρ' i s hs hr; simp only [VRel]; exact ⟨_, _, hr, rfl⟩
      · cases hv
  | _ => simp only [aalloc] at hv; cases hv

end Go.Ab
end
