/- The abstract machine: a walk as a proposition. -/
import Derived.Test.YtflmoocllahjnaaAb21
namespace Go.Ab
variable {P : Program} {K : FuncId → List Value → Option Value}

def Ok (P : Program) (K : FuncId → List Value → Option Value) (t : Task) (h : AH) (Q : Out → AH → Prop) : Prop := ∃ n r, run P K n t h = some r ∧ Q r.1 r.2
def thn {α : Type} (o : Option α) (p : α → Prop) : Prop := ∃ v, o = some v ∧ p v
def Br (v : Value) (p q : Prop) : Prop := ∃ b, v = .bool b ∧ (b = true → p) ∧ (b = false → q)

theorem Ok.mono {t : Task} {h : AH} {Q Q' : Out → AH → Prop} (k : Ok P K t h Q) (hq : ∀ o h', Q o h' → Q' o h') : Ok P K t h Q' :=
  let ⟨n, r, h1, h2⟩ := k; ⟨n, r, h1, hq _ _ h2⟩
theorem Ok.of {t : Task} {h : AH} {Q : Out → AH → Prop} {n : Nat} {o : Out} {h' : AH} (hr : run P K n t h = some (o, h')) (hq : Q o h') : Ok P K t h Q := ⟨n, (o, h'), hr, hq⟩
@[simp] theorem thn_some {α : Type} {v : α} {p : α → Prop} : thn (some v) p ↔ p v := ⟨fun ⟨_, h, k⟩ => by cases h; exact k, fun k => ⟨v, rfl, k⟩⟩
@[simp] theorem thn_none {α : Type} {p : α → Prop} : thn none p ↔ False := ⟨fun ⟨_, h, _⟩ => (nomatch h), False.elim⟩
theorem thn_of {α : Type} {o : Option α} {v : α} {p : α → Prop} (h : o = some v) (k : p v) : thn o p := ⟨v, h, k⟩
@[congr] theorem thn_congr {α : Type} {o o' : Option α} {p : α → Prop} (h : o = o') : thn o p ↔ thn o' p := by rw [h]
theorem thn.mono {α : Type} {o : Option α} {p p' : α → Prop} (h : thn o p) (k : ∀ v, p v → p' v) : thn o p' := let ⟨v, a, b⟩ := h; ⟨v, a, k v b⟩
@[simp] theorem Br_true {p q : Prop} : Br (.bool true) p q ↔ p := ⟨fun ⟨b, h, k, _⟩ => by cases h; exact k rfl, fun k => ⟨true, rfl, fun _ => k, by simp⟩⟩
@[simp] theorem Br_false {p q : Prop} : Br (.bool false) p q ↔ q := ⟨fun ⟨b, h, _, k⟩ => by cases h; exact k rfl, fun k => ⟨false, rfl, by simp, fun _ => k⟩⟩
theorem Br_bool {b : Bool} {p q : Prop} : Br (.bool b) p q ↔ (b = true → p) ∧ (b = false → q) := ⟨fun ⟨b, h, k⟩ => by cases h; exact k, fun k => ⟨b, rfl, k⟩⟩
theorem Br_bool' {b : Bool} {p q : Prop} (hp : b = true → p) (hq : b = false → q) : Br (.bool b) p q := ⟨b, rfl, hp, hq⟩
@[congr] theorem Br_congr {v v' : Value} {p q : Prop} (h : v = v') : Br v p q ↔ Br v' p q := by rw [h]

/-! ### The operations, their types looked up -/
def pickV (c a b : Value) : Option Value := match c with
  | .bool t => some (if t then a else b)
  | _ => none
def ld1 (h : AH) (p : Value) : Option Value := match p with
  | .pointer (some a) => if a.spot.isSome then none else
    (match h.get a.block with
    | some (.cells c _ _ _) => c[a.off]?
    | _ => none)
  | _ => none
def ldN (h : AH) (n : Nat) (p : Value) : Option Value := match p with
  | .pointer (some a) => (loadCellsAt h a n).map fun l => .agg ⟨l⟩
  | _ => none
def nilV (p : Value) : Option Value := match p with
  | .pointer (some a) => some (.pointer (some a))
  | .func (.func f) a b => some (.func (.func f) a b)
  | .func (.yield f) a b => some (.func (.yield f) a b)
  | _ => none
def unV (op : UnOp) (x : Value) : Option Value := match op, x with
  | .neg, .int k n => some (.int k (k.wrap (0 - n)))
  | .not, .bool b => some (.bool !b)
  | _, _ => none
def convI (k : IntKind) (x : Value) : Option Value := match x with
  | .int _ n => some (.int k (k.wrap n))
  | _ => none
def convS (x : Value) : Option Value := match x with
  | .string z => some (.string z)
  | _ => none
def padd (n : Nat) (p : Value) : Option Value := match p with
  | .pointer (some a) => some (.pointer (some (a.add n)))
  | _ => none
def part1 (off : Nat) (x : Value) : Option Value := match x with
  | .agg cs => cs.toList[off]?
  | _ => none
def partN (off n : Nat) (x : Value) : Option Value := match x with
  | .agg cs => if off + n ≤ cs.toList.length then some (.agg ⟨(cs.toList.drop off).take n⟩) else none
  | _ => none
def idxA (n sz : Nat) (x i : Value) : Option Value := match x, i with
  | .pointer (some a), .int _ i => if 0 ≤ i ∧ i < n then some (.pointer (some (a.add (i.toNat * sz)))) else none
  | _, _ => none
def idxS (sz : Nat) (x i : Value) : Option Value := match x, i with
  | .slice (some a) n _, .int _ i => if 0 ≤ i ∧ i < n ∧ a.spot = none then some (.pointer (some (a.add (i.toNat * sz)))) else none
  | _, _ => none
def at1 (n sz : Nat) (x i : Value) : Option Value := match x, i with
  | .agg cs, .int _ i => if 0 ≤ i ∧ i < n then cs.toList[i.toNat * sz]? else none
  | _, _ => none
def atN (n sz : Nat) (x i : Value) : Option Value := match x, i with
  | .agg cs, .int _ i => if 0 ≤ i ∧ i < n ∧ i.toNat * sz + sz ≤ cs.toList.length then some (.agg ⟨(cs.toList.drop (i.toNat * sz)).take sz⟩) else none
  | _, _ => none
def atS (x i : Value) : Option Value := match x, i with
  | .string s, .int _ i => if 0 ≤ i then (s[i.toNat]?).map fun b => .int .u8 b.toNat else none
  | _, _ => none
def extV (i : Nat) (t : Value) : Option Value := match t with
  | .tuple vs => vs.toList[i]?
  | _ => none
def stV (h : AH) (n : Nat) (p v : Value) : Option AH := match p with
  | .pointer (some a) => (match cellsOfV v with
    | some vs => if vs.length = n then storeCellsAt h a vs else none
    | none => none)
  | _ => none
def blkOf (e : TypeId) (v : Value) : Option Blk := (cellsOfV v).map fun l => .cells l e (0, 0) true
def mkS (bytes : Nat) (l c : Value) : Option (Nat × Nat) := match l, c with
  | .int _ l, .int _ c => if 0 ≤ l ∧ l ≤ c ∧ c ≤ 2 ^ 40 ∧ bytes * c ≤ 2 ^ 47 then some (l.toNat, c.toNat) else none
  | _, _ => none
/-- a function that is called -/
def OkF (P : Program) (K : FuncId → List Value → Option Value) (f : Value) (args : List Value) (h : AH) (Q : Value → AH → Prop) : Prop := match f with
  | .func (.func g) first captured => callable P g = true ∧ Ok P K (.call g (first.toList ++ args ++ captured.toList)) h fun o h' => Q o.v h'
  | .func (.yield l) first _ => Ok P K (.round l (first.toList ++ args)) h fun o h' => Q o.v h'
  | _ => False

def wpLight (P : Program) (ev : Operand → Value) (h : AH) (q : Value → Prop) : Op → Prop
  | .move x => q (ev x)
  | .assign x => q (ev x)
  | .pick c a b => thn (pickV (ev c) (ev a) (ev b)) q
  | .build t parts => thn (abuild P t (parts.toList.map fun p => (p.1, ev p.2))) q
  | .load t a => match aggOf P t with
    | some true => thn (ldN h (P.cellsOf t) (ev a)) q
    | some false => thn (ld1 h (ev a)) q
    | none => False
  | .nilCheck x => thn (nilV (ev x)) q
  | .binOp op t x y _ => thn (abin P op t x y (ev x) (ev y)) q
  | .unOp op _ x => thn (unV op (ev x)) q
  | .convert s d x => match P.underlying s with
    | some .string => (match P.underlying d with
      | some (.int k) => thn (convI k (ev x)) q
      | some .string => thn (convS (ev x)) q
      | _ => False)
    | some _ => (match P.underlying d with
      | some (.int k) => thn (convI k (ev x)) q
      | _ => False)
    | none => False
  | .makeInterface t x => match P.underlying t with
    | some (.interface _) => False
    | some _ => q (.iface t (ev x))
    | none => False
  | .makeFunc fn first captured => match fn with
    | .func f => q (.func (.func f) (first.map ev) (captured.map ev))
    | _ => False
  | .slice t x lo hi mx => thn (aslice P h t (ev x) (lo.map ev) (hi.map ev) (mx.map ev)) q
  | .fieldAddr s x f => match P.underlying s with
    | some (.struct fs) => (match fs[f]? with
      | some fd => if P.cellsOf fd.type = 0 then False else thn (padd fd.offset (ev x)) q
      | none => False)
    | _ => False
  | .field t x f => match P.underlying t with
    | some (.struct fs) => (match fs[f]? with
      | some fd => (match aggOf P fd.type with
        | some true => thn (partN fd.offset (P.cellsOf fd.type) (ev x)) q
        | some false => thn (part1 fd.offset (ev x)) q
        | none => False)
      | none => False)
    | _ => False
  | .indexAddr t x i => match P.underlying t with
    | some (.array n e) => if (P.info? e).isSome then thn (idxA n (P.cellsOf e) (ev x) (ev i)) q else False
    | some (.slice e) => if (P.info? e).isSome then thn (idxS (P.cellsOf e) (ev x) (ev i)) q else False
    | _ => False
  | .index t x i => match P.underlying t with
    | some (.array n e) => if (P.info? e).isSome then (match aggOf P e with
      | some true => thn (atN n (P.cellsOf e) (ev x) (ev i)) q
      | some false => thn (at1 n (P.cellsOf e) (ev x) (ev i)) q
      | none => False) else False
    | some .string => thn (atS (ev x) (ev i)) q
    | _ => False
  | .extract t i => thn (extV i (ev t)) q
  | _ => False

theorem wpLight_sound {ev : Operand → Value} {h : AH} {q : Value → Prop} {op : Op} (hw : wpLight P ev h q op) : kindOf op = .light ∧ ∃ v, alight P ev h op = some v ∧ q v := by
  unfold wpLight at hw
  split at hw
  · exact ⟨rfl, _, rfl, hw⟩
  · exact ⟨rfl, _, rfl, hw⟩
  · obtain ⟨v, h1, h2⟩ := hw; exact ⟨rfl, v, h1, h2⟩
  · obtain ⟨v, h1, h2⟩ := hw; exact ⟨rfl, v, h1, h2⟩
  · refine ⟨rfl, ?_⟩
    split at hw
    · rename_i ha
      obtain ⟨v, h1, h2⟩ := hw
      refine ⟨v, ?_, h2⟩
      unfold ldN at h1
      simp only [alight]
      split at h1
      · rename_i he; rw [he]; simp only [aload, ha]; exact h1
      · cases h1
    · rename_i ha
      obtain ⟨v, h1, h2⟩ := hw
      refine ⟨v, ?_, h2⟩
      unfold ld1 at h1
      simp only [alight]
      split at h1
      · rename_i he; rw [he]; simp only [aload, ha]; exact h1
      · cases h1
    · cases hw
  · obtain ⟨v, h1, h2⟩ := hw; exact ⟨rfl, v, h1, h2⟩
  · obtain ⟨v, h1, h2⟩ := hw; exact ⟨rfl, v, h1, h2⟩
  · obtain ⟨v, h1, h2⟩ := hw; exact ⟨rfl, v, h1, h2⟩
  · refine ⟨rfl, ?_⟩
    split at hw
    · rename_i hs
      split at hw
      · rename_i hd
        obtain ⟨v, h1, h2⟩ := hw
        refine ⟨v, ?_, h2⟩
        unfold convI at h1
        split at h1
        · rename_i he; simp only [alight, hs, hd, he]; exact h1
        · cases h1
      · rename_i hd
        obtain ⟨v, h1, h2⟩ := hw
        refine ⟨v, ?_, h2⟩
        unfold convS at h1
        split at h1
        · rename_i he; simp only [alight, hs, hd, he]; exact h1
        · cases h1
      · cases hw
    · rename_i hs
      split at hw
      · rename_i hd
        obtain ⟨v, h1, h2⟩ := hw
        refine ⟨v, ?_, h2⟩
        unfold convI at h1
        split at h1
        · rename_i he; simp only [alight, hs, hd, he]; exact h1
        · cases h1
      · cases hw
    · cases hw
  · refine ⟨rfl, ?_⟩
    split at hw
    · cases hw
    · rename_i t x d hn hs
      refine ⟨_, ?_, hw⟩
      simp only [alight]
      split
      · rename_i h2; rw [hs] at h2; cases h2; exact absurd rfl (hn _)
      · rfl
      · rename_i h2; rw [hs] at h2; cases h2
    · cases hw
  · split at hw
    · exact ⟨rfl, _, rfl, hw⟩
    · cases hw
  · obtain ⟨v, h1, h2⟩ := hw; exact ⟨rfl, v, h1, h2⟩
  · refine ⟨rfl, ?_⟩
    split at hw
    · rename_i hs
      split at hw
      · rename_i hf
        split at hw
        · cases hw
        · rename_i hc
          obtain ⟨v, h1, h2⟩ := hw
          refine ⟨v, ?_, h2⟩
          unfold padd at h1
          split at h1
          · rename_i he; simp only [alight, hs, he, hf, hc, if_false]; exact h1
          · cases h1
      · cases hw
    · cases hw
  · refine ⟨rfl, ?_⟩
    split at hw
    · rename_i hs
      split at hw
      · rename_i hf
        split at hw
        · rename_i ha
          obtain ⟨v, h1, h2⟩ := hw
          refine ⟨v, ?_, h2⟩
          unfold partN at h1
          split at h1
          · rename_i he; simp only [alight, hs, he, hf, apart, ha]; exact h1
          · cases h1
        · rename_i ha
          obtain ⟨v, h1, h2⟩ := hw
          refine ⟨v, ?_, h2⟩
          unfold part1 at h1
          split at h1
          · rename_i he; simp only [alight, hs, he, hf, apart, ha]; exact h1
          · cases h1
        · cases hw
      · cases hw
    · cases hw
  · refine ⟨rfl, ?_⟩
    split at hw
    · rename_i hs
      split at hw
      · rename_i hinf
        obtain ⟨v, h1, h2⟩ := hw
        refine ⟨v, ?_, h2⟩
        unfold idxA at h1
        split at h1
        · rename_i he he2
          split at h1
          · rename_i hc
            simp only [alight, hs, he, he2, hc, hinf, and_self, if_true]; exact h1
          · cases h1
        · cases h1
      · cases hw
    · rename_i hs
      split at hw
      · rename_i hinf
        obtain ⟨v, h1, h2⟩ := hw
        refine ⟨v, ?_, h2⟩
        unfold idxS at h1
        split at h1
        · rename_i he he2
          split at h1
          · rename_i hc
            simp only [alight, hs, he, he2, hc, hinf, and_self, if_true]; exact h1
          · cases h1
        · cases h1
      · cases hw
    · cases hw
  · refine ⟨rfl, ?_⟩
    split at hw
    · rename_i hs
      split at hw
      · rename_i hinf
        split at hw
        · rename_i ha
          obtain ⟨v, h1, h2⟩ := hw
          refine ⟨v, ?_, h2⟩
          unfold atN at h1
          split at h1
          · rename_i he he2
            split at h1
            · rename_i hc
              have hc1 := hc.1
              have hc2 := hc.2.1
              have hc3 := hc.2.2
              simp only [alight, hs, he, he2, hc1, hc2, hinf, and_self, if_true, apart, ha, hc3]; exact h1
            · cases h1
          · cases h1
        · rename_i ha
          obtain ⟨v, h1, h2⟩ := hw
          refine ⟨v, ?_, h2⟩
          unfold at1 at h1
          split at h1
          · rename_i he he2
            split at h1
            · rename_i hc
              simp only [alight, hs, he, he2, hc, hinf, and_self, if_true, apart, ha]; exact h1
            · cases h1
          · cases h1
        · cases hw
      · cases hw
    · rename_i hs
      obtain ⟨v, h1, h2⟩ := hw
      refine ⟨v, ?_, h2⟩
      unfold atS at h1
      split at h1
      · rename_i he he2; simp only [alight, hs, he, he2]; exact h1
      · cases h1
    · cases hw
  · obtain ⟨v, h1, h2⟩ := hw; exact ⟨rfl, v, h1, h2⟩
  · cases hw

end Go.Ab
