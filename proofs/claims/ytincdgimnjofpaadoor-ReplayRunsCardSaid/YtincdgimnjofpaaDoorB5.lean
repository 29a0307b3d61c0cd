/- Texts as lists of bytes. -/
import Derived.Test.YtincdgimnjofpaaDoorB3
import Derived.IntWalk
import Derived.ChangeArms
import Derived.OpenShut
import Derived.ChangeSlices
import Derived.Lib.ItoaNum
import Derived.Lib.Bytes
section
namespace Go.Ab
open Go.RowKit

/-! ### Parts -/
inductive Tok where
  | free
  | mt (e : TypeId) (x : Bool) (n : Nat)
  | oth (b : Blk)
structure Res where
  cell : Nat → Nat → Option Value
  tok : Nat → Option Tok
def isOth : Blk → Bool
  | .cells .. => false
  | _ => true
structure Res.In (r : Res) (h : AH) : Prop where
  cell : ∀ b o v, r.cell b o = some v → h.base ≤ b ∧ ∃ c e x, h.get b = some (.cells c e (0, 0) x) ∧ c[o]? = some v
  free : ∀ b, r.tok b = some .free → h.base ≤ b ∧ b < h.next ∧ h.get b = none
  mt : ∀ b e x n, r.tok b = some (.mt e x n) → h.base ≤ b ∧ ∃ c, h.get b = some (.cells c e (0, 0) x) ∧ c.length = n
  oth : ∀ b o, r.tok b = some (.oth o) → h.base ≤ b ∧ h.get b = some o ∧ isOth o = true
structure Res.Disj (r s : Res) : Prop where
  cell : ∀ b o, r.cell b o = none ∨ s.cell b o = none
  tok : ∀ b, r.tok b = none ∨ s.tok b = none
def Res.add (r s : Res) : Res := ⟨fun b o => (r.cell b o).or (s.cell b o), fun b => (r.tok b).or (s.tok b)⟩
def Res.emp : Res := ⟨fun _ _ => none, fun _ => none⟩
theorem Res.ext' {r s : Res} (h1 : ∀ b o, r.cell b o = s.cell b o) (h2 : ∀ b, r.tok b = s.tok b) : r = s := by
  cases r; cases s
  simp only [Res.mk.injEq]
  exact ⟨funext fun b => funext fun o => h1 b o, funext h2⟩
theorem or_comm_of {α : Type} {a b : Option α} (h : a = none ∨ b = none) : a.or b = b.or a := by
  rcases h with h | h <;> subst h <;> simp
theorem or_none {α : Type} {a b : Option α} (h : a.or b = none) : a = none ∧ b = none := by cases a <;> simp_all
theorem Res.Disj.symm {r s : Res} (d : r.Disj s) : s.Disj r := ⟨fun b o => (d.cell b o).symm, fun b => (d.tok b).symm⟩
theorem Res.add_comm {r s : Res} (d : r.Disj s) : r.add s = s.add r := Res.ext' (fun b o => or_comm_of (d.cell b o)) (fun b => or_comm_of (d.tok b))
theorem Res.add_assoc {r s t : Res} : (r.add s).add t = r.add (s.add t) := Res.ext' (fun b o => by simp [Res.add, Option.or_assoc]) (fun b => by simp [Res.add, Option.or_assoc])
theorem Res.disj_add {r s t : Res} : r.Disj (s.add t) ↔ r.Disj s ∧ r.Disj t := by
  constructor
  · intro d
    refine ⟨⟨fun b o => ?_, fun b => ?_⟩, ⟨fun b o => ?_, fun b => ?_⟩⟩
    · rcases d.cell b o with h | h; exact .inl h; exact .inr (or_none h).1
    · rcases d.tok b with h | h; exact .inl h; exact .inr (or_none h).1
    · rcases d.cell b o with h | h; exact .inl h; exact .inr (or_none h).2
    · rcases d.tok b with h | h; exact .inl h; exact .inr (or_none h).2
  · intro ⟨d1, d2⟩
    refine ⟨fun b o => ?_, fun b => ?_⟩
    · rcases d1.cell b o with h | h
      · exact .inl h
      · rcases d2.cell b o with h' | h'
        · exact .inl h'
        · exact .inr (by simp [Res.add, h, h'])
    · rcases d1.tok b with h | h
      · exact .inl h
      · rcases d2.tok b with h' | h'
        · exact .inl h'
        · exact .inr (by simp [Res.add, h, h'])
theorem Res.emp_add {r : Res} : Res.emp.add r = r := Res.ext' (fun _ _ => by simp [Res.add, Res.emp]) (fun _ => by simp [Res.add, Res.emp])
theorem Res.emp_disj {r : Res} : Res.emp.Disj r := ⟨fun _ _ => .inl rfl, fun _ => .inl rfl⟩
theorem Res.in_add {r s : Res} {h : AH} (d : r.Disj s) : (r.add s).In h ↔ r.In h ∧ s.In h := by
  have c1 : ∀ b o v, r.cell b o = some v → (r.add s).cell b o = some v := fun b o v hv => by simp [Res.add, hv]
  have c2 : ∀ b o v, s.cell b o = some v → (r.add s).cell b o = some v := fun b o v hv => by
    rcases d.cell b o with h | h
    · simp [Res.add, h, hv]
    · rw [h] at hv; cases hv
  have t1 : ∀ b v, r.tok b = some v → (r.add s).tok b = some v := fun b v hv => by simp [Res.add, hv]
  have t2 : ∀ b v, s.tok b = some v → (r.add s).tok b = some v := fun b v hv => by
    rcases d.tok b with h | h
    · simp [Res.add, h, hv]
    · rw [h] at hv; cases hv
  have c3 : ∀ b o v, (r.add s).cell b o = some v → r.cell b o = some v ∨ s.cell b o = some v := fun b o v hv => by
    simp only [Res.add] at hv
    cases hr : r.cell b o with
    | none => rw [hr] at hv; exact .inr (by simpa using hv)
    | some u => rw [hr] at hv; exact .inl (by simpa using hv)
  have t3 : ∀ b v, (r.add s).tok b = some v → r.tok b = some v ∨ s.tok b = some v := fun b v hv => by
    simp only [Res.add] at hv
    cases hr : r.tok b with
    | none => rw [hr] at hv; exact .inr (by simpa using hv)
    | some u => rw [hr] at hv; exact .inl (by simpa using hv)
  constructor
  · intro i
    exact ⟨⟨fun b o v hv => i.cell b o v (c1 _ _ _ hv), fun b hv => i.free b (t1 _ _ hv), fun b e x n hv => i.mt b e x n (t1 _ _ hv), fun b o hv => i.oth b o (t1 _ _ hv)⟩,
      ⟨fun b o v hv => i.cell b o v (c2 _ _ _ hv), fun b hv => i.free b (t2 _ _ hv), fun b e x n hv => i.mt b e x n (t2 _ _ hv), fun b o hv => i.oth b o (t2 _ _ hv)⟩⟩
  · intro ⟨i, j⟩
    refine ⟨fun b o v hv => ?_, fun b hv => ?_, fun b e x n hv => ?_, fun b o hv => ?_⟩
    · rcases c3 _ _ _ hv with h | h; exact i.cell b o v h; exact j.cell b o v h
    · rcases t3 _ _ hv with h | h; exact i.free b h; exact j.free b h
    · rcases t3 _ _ hv with h | h; exact i.mt b e x n h; exact j.mt b e x n h
    · rcases t3 _ _ hv with h | h; exact i.oth b o h; exact j.oth b o h

abbrev HP := Res → Prop
def star : List HP → Res → Prop
  | [], r => r = Res.emp
  | A :: L, r => ∃ r1 r2, A r1 ∧ star L r2 ∧ r1.Disj r2 ∧ r = r1.add r2
theorem star_perm {L L' : List HP} (p : L.Perm L') : ∀ r, star L r → star L' r := by
  induction p with
  | nil => exact fun _ h => h
  | cons A _ ih => exact fun r ⟨r1, r2, h1, h2, h3, h4⟩ => ⟨r1, r2, h1, ih _ h2, h3, h4⟩
  | swap A B L =>
    intro r ⟨r1, r2, h1, ⟨r3, r4, h5, h6, h7, h8⟩, h3, h4⟩
    subst h8; subst h4
    obtain ⟨d1, d2⟩ := Res.disj_add.1 h3
    refine ⟨r3, r1.add r4, h5, ⟨r1, r4, h1, h6, d2, rfl⟩, Res.disj_add.2 ⟨d1.symm, h7⟩, ?_⟩
    rw [← Res.add_assoc, ← Res.add_assoc, Res.add_comm d1]
  | trans _ _ ih1 ih2 => exact fun r h => ih2 r (ih1 r h)
theorem star_append {L M : List HP} : ∀ {r}, star (L ++ M) r ↔ ∃ r1 r2, star L r1 ∧ star M r2 ∧ r1.Disj r2 ∧ r = r1.add r2 := by
  induction L with
  | nil => intro r; exact ⟨fun h => ⟨Res.emp, r, rfl, h, Res.emp_disj, Res.emp_add.symm⟩, fun ⟨r1, r2, h1, h2, h3, h4⟩ => by cases h1; rw [Res.emp_add] at h4; subst h4; exact h2⟩
  | cons A L ih =>
    intro r
    constructor
    · intro ⟨r1, r2, h1, h2, h3, h4⟩
      obtain ⟨r3, r4, h5, h6, h7, h8⟩ := ih.1 h2
      subst h8
      obtain ⟨d1, d2⟩ := Res.disj_add.1 h3
      exact ⟨r1.add r3, r4, ⟨r1, r3, h1, h5, d1, rfl⟩, h6, (Res.disj_add.2 ⟨d2.symm, h7.symm⟩).symm, by rw [h4, Res.add_assoc]⟩
    · intro ⟨r1, r2, ⟨r3, r4, h1, h2, h3, h4⟩, h5, h6, h7⟩
      subst h4
      obtain ⟨d1, d2⟩ := Res.disj_add.1 h6.symm
      exact ⟨r3, r4.add r2, h1, ih.2 ⟨r4, r2, h2, h5, d2.symm, rfl⟩, Res.disj_add.2 ⟨h3, d1.symm⟩, by rw [h7, Res.add_assoc]⟩

/-- what stays as it is: how many blocks are read alone, and these -/
structure Bg where
  base : Nat
  old : Nat → Option Blk
structure Hs (G : Bg) (h : AH) (L : List HP) : Prop where
  base : h.base = G.base
  old : h.old = G.old
  wf : h.base ≤ h.next
  fr : ∀ i, h.next ≤ i → h.get i = none
  res : ∃ r, star L r ∧ r.In h
variable {P : Program} {K : FuncId → List Value → Option Ans} {G : Bg} {h : AH} {L L' M : List HP}
theorem Hs.perm (hs : Hs G h L) (p : L.Perm L') : Hs G h L' := ⟨hs.base, hs.old, hs.wf, hs.fr, let ⟨r, h1, h2⟩ := hs.res; ⟨r, star_perm p r h1, h2⟩⟩
theorem Hs.tail {A : HP} (hs : Hs G h (A :: L)) : Hs G h L := ⟨hs.base, hs.old, hs.wf, hs.fr, let ⟨_, ⟨_, r2, _, h2, h3, h4⟩, h5⟩ := hs.res; ⟨r2, h2, ((Res.in_add h3).1 (h4 ▸ h5)).2⟩⟩
theorem Hs.imp {A : HP} {B : List HP} (hs : Hs G h (A :: L)) (k : ∀ r, A r → star B r) : Hs G h (B ++ L) := ⟨hs.base, hs.old, hs.wf, hs.fr, let ⟨r, ⟨r1, r2, h1, h2, h3, h4⟩, h5⟩ := hs.res; ⟨r, star_append.2 ⟨r1, r2, k r1 h1, h2, h3, h4⟩, h5⟩⟩
theorem Hs.join {A : List HP} {B : HP} (hs : Hs G h (A ++ L)) (k : ∀ r, star A r → B r) : Hs G h (B :: L) := ⟨hs.base, hs.old, hs.wf, hs.fr, let ⟨r, h1, h5⟩ := hs.res; let ⟨r1, r2, h1, h2, h3, h4⟩ := star_append.1 h1; ⟨r, ⟨r1, r2, k r1 h1, h2, h3, h4⟩, h5⟩⟩

/-- a chunk of a kind, and what is left -/
class Has {α : Type} (R : α → HP) (L : List HP) (a : outParam α) (L' : outParam (List HP)) : Prop where
  perm : L.Perm (R a :: L')
instance (priority := low) Has.there {α : Type} {R : α → HP} {A : HP} {a : α} [k : Has R L a L'] : Has R (A :: L) a (A :: L') := ⟨(k.perm.cons A).trans (List.Perm.swap _ _ _)⟩
instance (priority := high) Has.here {α : Type} {R : α → HP} {a : α} : Has R (R a :: L) a L := ⟨List.Perm.refl _⟩
instance (priority := high) Has.app {α : Type} {R : α → HP} {A : HP} {L1 L2 : List HP} {a : α} [k : Has R (A :: (L1 ++ L2)) a L'] : Has R ((A :: L1) ++ L2) a L' := k
instance (priority := high) Has.app0 {α : Type} {R : α → HP} {L2 : List HP} {a : α} [k : Has R L2 a L'] : Has R ([] ++ L2) a L' := k
theorem Hs.get {α : Type} {R : α → HP} {a : α} (hs : Hs G h L) [k : Has R L a L'] : Hs G h (R a :: L') := hs.perm k.perm

/-! ### Cells -/
def segR (b o : Nat) (c : List Value) : Res := ⟨fun b' o' => if b' = b ∧ o ≤ o' then c[o' - o]? else none, fun _ => none⟩
/-- the cells of a block from a place on -/
def seg (b o : Nat) (c : List Value) : HP := fun r => r = segR b o c
/-- a block's length, and what it is for -/
def mt (b : Nat) (m : TypeId × Bool × Nat) : HP := fun r => r = ⟨fun _ _ => none, fun b' => if b' = b then some (.mt m.1 m.2.1 m.2.2) else none⟩
/-- a block that is no memory -/
def ot (b : Nat) (o : Blk) : HP := fun r => r = ⟨fun _ _ => none, fun b' => if b' = b then some (.oth o) else none⟩
/-- numbers that are kept, but for some -/
def frs (r0 n : Nat) (D : List Nat) : HP := fun r => r = ⟨fun _ _ => none, fun b => if r0 ≤ b ∧ b < r0 + n ∧ (b - r0) ∉ D then some .free else none⟩
theorem segR_cell {b o : Nat} {c : List Value} {b' o' : Nat} : (segR b o c).cell b' o' = if b' = b ∧ o ≤ o' then c[o' - o]? else none := rfl
theorem segR_append {b o : Nat} {c d : List Value} : segR b o (c ++ d) = (segR b o c).add (segR b (o + c.length) d) := by
  refine Res.ext' (fun b' o' => ?_) (fun _ => rfl)
  simp only [Res.add, segR_cell]
  by_cases hb : b' = b
  · by_cases ho : o ≤ o'
    · by_cases hl : o' - o < c.length
      · rw [if_pos ⟨hb, ho⟩, if_pos ⟨hb, ho⟩, List.getElem?_append_left hl, List.getElem?_eq_getElem hl]; simp
      · rw [if_pos ⟨hb, ho⟩, if_pos ⟨hb, ho⟩, List.getElem?_append_right (by omega), List.getElem?_eq_none (l := c) (by omega), if_pos ⟨hb, by omega⟩]
        simp only [Option.none_or]
        congr 1; omega
    · rw [if_neg (fun h => ho h.2), if_neg (fun h => ho h.2), if_neg (fun h => ho (by omega))]; rfl
  · rw [if_neg (fun h => hb h.1), if_neg (fun h => hb h.1), if_neg (fun h => hb h.1)]; rfl
theorem segR_disj {b o : Nat} {c d : List Value} : (segR b o c).Disj (segR b (o + c.length) d) := by
  refine ⟨fun b' o' => ?_, fun _ => .inl rfl⟩
  simp only [segR_cell]
  by_cases hb : b' = b ∧ o + c.length ≤ o'
  · left
    rw [if_pos ⟨hb.1, by omega⟩, List.getElem?_eq_none (by omega)]
  · right; rw [if_neg hb]
theorem seg_split {b o : Nat} {c d : List Value} (r : Res) : seg b o (c ++ d) r ↔ star [seg b o c, seg b (o + c.length) d] r := by
  constructor
  · intro hr
    cases hr
    exact ⟨_, _, rfl, ⟨_, Res.emp, rfl, rfl, Res.emp_disj.symm, rfl⟩, by rw [Res.add_comm Res.emp_disj.symm, Res.emp_add]; exact segR_disj, by rw [Res.add_comm (s := Res.emp) Res.emp_disj.symm, Res.emp_add, segR_append]⟩
  · intro ⟨r1, r2, h1, ⟨r3, r4, h5, h6, h7, h8⟩, h3, h4⟩
    cases h1; cases h5; cases h6
    subst h8
    rw [Res.add_comm (s := Res.emp) Res.emp_disj.symm, Res.emp_add] at h4
    rw [← segR_append] at h4
    exact h4
theorem Hs.split {b o : Nat} {c d : List Value} (hs : Hs G h (seg b o (c ++ d) :: L)) : Hs G h (seg b o c :: seg b (o + c.length) d :: L) := hs.imp (B := [_, _]) fun r => (seg_split r).1
theorem Hs.unsplit {b o o' : Nat} {c d : List Value} (hs : Hs G h (seg b o c :: seg b o' d :: L)) (ho : o' = o + c.length) : Hs G h (seg b o (c ++ d) :: L) := by
  subst ho; exact Hs.join (A := [_, _]) hs fun r => (seg_split r).2

theorem Hs.cellAt {b o j : Nat} {c : List Value} {v : Value} (hs : Hs G h (seg b o c :: L)) (hc : c[j]? = some v) :
    G.base ≤ b ∧ ∃ c' e x, h.get b = some (.cells c' e (0, 0) x) ∧ c'[o + j]? = some v := by
  obtain ⟨_, ⟨r1, r2, h1, h2, h3, h4⟩, h5⟩ := hs.res
  cases h1
  subst h4
  have := ((Res.in_add h3).1 h5).1.cell b (o + j) v (by rw [segR_cell, if_pos ⟨rfl, by omega⟩]; rw [show o + j - o = j by omega]; exact hc)
  rw [hs.base] at this
  exact this
theorem Hs.cells {b o : Nat} {c : List Value} (hs : Hs G h (seg b o c :: L)) (hne : 0 < c.length) :
    G.base ≤ b ∧ ∃ c' e x, h.get b = some (.cells c' e (0, 0) x) ∧ o + c.length ≤ c'.length ∧ ∀ j, j < c.length → c'[o + j]? = c[j]? := by
  obtain ⟨hb, c', e, x, hg, h0⟩ := hs.cellAt (j := 0) (List.getElem?_eq_getElem hne)
  have hall : ∀ j, j < c.length → c'[o + j]? = c[j]? := fun j hj => by
    obtain ⟨_, c2, e2, x2, hg2, h2⟩ := hs.cellAt (j := j) (List.getElem?_eq_getElem hj)
    rw [hg] at hg2; cases hg2
    rw [h2, List.getElem?_eq_getElem hj]
  refine ⟨hb, c', e, x, hg, ?_, hall⟩
  have h1 := hall (c.length - 1) (by omega)
  rw [List.getElem?_eq_getElem (l := c) (by omega)] at h1
  have := (List.getElem?_eq_some_iff.1 h1).1
  omega

/-! ### How the heap turns -/
theorem Res.In.of {r : Res} {h h' : AH} (i : r.In h) (hb : h'.base = h.base) (hn : h.next ≤ h'.next) (hk : ∀ b, (r.tok b ≠ none ∨ ∃ o, r.cell b o ≠ none) → h'.get b = h.get b) : r.In h' where
  cell := fun b o v hv => by
    obtain ⟨h1, c, e, x, h2, h3⟩ := i.cell b o v hv
    exact ⟨by rw [hb]; exact h1, c, e, x, by rw [hk b (.inr ⟨o, by rw [hv]; simp⟩)]; exact h2, h3⟩
  free := fun b hv => by
    obtain ⟨h1, h2, h3⟩ := i.free b hv
    exact ⟨by rw [hb]; exact h1, Nat.lt_of_lt_of_le h2 hn, by rw [hk b (.inl (by rw [hv]; simp))]; exact h3⟩
  mt := fun b e x n hv => by
    obtain ⟨h1, c, h2, h3⟩ := i.mt b e x n hv
    exact ⟨by rw [hb]; exact h1, c, by rw [hk b (.inl (by rw [hv]; simp))]; exact h2, h3⟩
  oth := fun b o hv => by
    obtain ⟨h1, h2, h3⟩ := i.oth b o hv
    exact ⟨by rw [hb]; exact h1, by rw [hk b (.inl (by rw [hv]; simp))]; exact h2, h3⟩
theorem AH.set_old {h : AH} {i : Nat} {o : Option Blk} : (h.set i o).old = h.old := by rw [AH.set_eq]; split <;> rfl
theorem AH.alloc_old {h : AH} {o : Blk} : (h.alloc o).old = h.old := rfl
/-- cells are written -/
theorem Hs.write {b o j : Nat} {c vs : List Value} (hs : Hs G h (seg b o c :: L)) (hl : j + vs.length ≤ c.length) (hv : vs.all cellB = true) (hne : 0 < c.length) :
    ∃ h', storeCellsAt h ⟨b, o + j, none⟩ vs = some h' ∧ Hs G h' (seg b o (splice c j vs) :: L) := by
  obtain ⟨hb, c', e, x, hg, hlen, hall⟩ := hs.cells hne
  have hbase : h.base ≤ b := by rw [hs.base]; exact hb
  refine ⟨h.set b (some (.cells (splice c' (o + j) vs) e (0, 0) x)), ?_, ?_⟩
  · simp only [storeCellsAt, Option.isSome_none, Bool.false_or, hv, Bool.not_true, Bool.or_false, hg]
    rw [if_neg (by simpa using hbase), if_pos ⟨trivial, by omega⟩]
  · obtain ⟨_, ⟨r1, r2, h1, h2, h3, h4⟩, h5⟩ := hs.res
    cases h1
    subst h4
    obtain ⟨i1, i2⟩ := (Res.in_add h3).1 h5
    have hget : ∀ i, (h.set b (some (.cells (splice c' (o + j) vs) e (0, 0) x))).get i = if i = b then some (.cells (splice c' (o + j) vs) e (0, 0) x) else h.get i := fun i => AH.get_set hbase
    have hsl : ∀ k, (splice c' (o + j) vs)[k]? = if o + j ≤ k ∧ k < o + j + vs.length then vs[k - (o + j)]? else c'[k]? := fun k => by
      unfold splice
      by_cases h1 : k < o + j
      · rw [if_neg (by omega), List.append_assoc, List.getElem?_append_left (by simp; omega), List.getElem?_take, if_pos h1]
      · by_cases h2 : k < o + j + vs.length
        · rw [if_pos ⟨by omega, h2⟩, List.getElem?_append_left (by simp; omega), List.getElem?_append_right (by simp; omega)]
          simp only [List.length_take]
          congr 1; omega
        · rw [if_neg (by omega), List.getElem?_append_right (by simp; omega)]
          simp only [List.length_append, List.length_take, List.getElem?_drop]
          congr 1; omega
    have hsc : ∀ k, (splice c j vs)[k]? = if j ≤ k ∧ k < j + vs.length then vs[k - j]? else c[k]? := fun k => by
      unfold splice
      by_cases h1 : k < j
      · rw [if_neg (by omega), List.append_assoc, List.getElem?_append_left (by simp; omega), List.getElem?_take, if_pos h1]
      · by_cases h2 : k < j + vs.length
        · rw [if_pos ⟨by omega, h2⟩, List.getElem?_append_left (by simp; omega), List.getElem?_append_right (by simp; omega)]
          simp only [List.length_take]
          congr 1; omega
        · rw [if_neg (by omega), List.getElem?_append_right (by simp; omega)]
          simp only [List.length_append, List.length_take, List.getElem?_drop]
          congr 1; omega
    have hscl : (splice c j vs).length = c.length := by simp [splice]; omega
    have hd : (segR b o (splice c j vs)).Disj r2 := by
      refine ⟨fun b' o' => ?_, fun _ => .inl rfl⟩
      rcases h3.cell b' o' with h | h
      · left
        rw [segR_cell] at h ⊢
        split
        · rename_i hc
          rw [if_pos hc, List.getElem?_eq_none_iff] at h
          rw [List.getElem?_eq_none_iff]; omega
        · rfl
      · exact .inr h
    have hbn : b < h.next := by
      rcases Nat.lt_or_ge b h.next with h1 | h1
      · exact h1
      · rw [hs.fr b h1] at hg; cases hg
    refine ⟨by simp; exact hs.base, by rw [AH.set_old]; exact hs.old, by simp; exact hs.wf, fun i hi => by simp at hi; rw [hget, if_neg (by omega)]; exact hs.fr i hi, _, ⟨_, r2, rfl, h2, hd, rfl⟩, (Res.in_add hd).2 ⟨?_, ?_⟩⟩
    · refine ⟨fun b' o' v hv' => ?_, fun _ hh => by simp [segR] at hh, fun _ _ _ _ hh => by simp [segR] at hh, fun _ _ hh => by simp [segR] at hh⟩
      rw [segR_cell] at hv'
      split at hv'
      · rename_i hc
        obtain ⟨rfl, ho⟩ := hc
        refine ⟨by simp; exact hbase, _, e, x, by rw [hget, if_pos rfl], ?_⟩
        rw [hsl]
        rw [hsc] at hv'
        split at hv'
        · rename_i hk
          rw [if_pos (by omega), show o' - (o + j) = o' - o - j by omega]; exact hv'
        · rename_i hk
          rw [if_neg (by omega)]
          have hlt : o' - o < c.length := (List.getElem?_eq_some_iff.1 hv').1
          have := hall (o' - o) hlt
          rw [show o + (o' - o) = o' by omega] at this
          rw [this]; exact hv'
      · cases hv'
    · -- the rest
      have hr2 : ∀ b' o' v, r2.cell b' o' = some v → b' = b → ¬ (o + j ≤ o' ∧ o' < o + j + vs.length) := by
        intro b' o' v hv' hbb hk
        subst hbb
        rcases h3.cell b' o' with h | h
        · rw [segR_cell, if_pos ⟨rfl, by omega⟩, List.getElem?_eq_none_iff] at h
          omega
        · rw [h] at hv'; cases hv'
      refine ⟨fun b' o' v hv' => ?_, fun b' hv' => ?_, fun b' e' x' n hv' => ?_, fun b' ob hv' => ?_⟩
      · obtain ⟨g1, c2, e2, x2, g2, g3⟩ := i2.cell b' o' v hv'
        refine ⟨by simp; exact g1, ?_⟩
        rw [hget]
        by_cases hbb : b' = b
        · rw [if_pos hbb]
          rw [hbb, hg] at g2; cases g2
          refine ⟨_, e, x, rfl, ?_⟩
          rw [hsl, if_neg (hr2 b' o' v hv' hbb)]; exact g3
        · rw [if_neg hbb]; exact ⟨c2, e2, x2, g2, g3⟩
      · obtain ⟨g1, g2, g3⟩ := i2.free b' hv'
        refine ⟨by simp; exact g1, by simp; exact g2, ?_⟩
        rw [hget, if_neg (by intro hbb; subst hbb; rw [hg] at g3; cases g3)]; exact g3
      · obtain ⟨g1, c2, g2, g3⟩ := i2.mt b' e' x' n hv'
        refine ⟨by simp; exact g1, ?_⟩
        rw [hget]
        by_cases hbb : b' = b
        · rw [if_pos hbb]
          rw [hbb, hg] at g2; cases g2
          exact ⟨_, rfl, by simp [splice]; omega⟩
        · rw [if_neg hbb]; exact ⟨c2, g2, g3⟩
      · obtain ⟨g1, g2, g3⟩ := i2.oth b' ob hv'
        refine ⟨by simp; exact g1, ?_, g3⟩
        rw [hget, if_neg (by intro hbb; subst hbb; rw [hg] at g2; cases g2; simp [isOth] at g3)]; exact g2

/-- a new block -/
theorem newDisj {r : Res} {h : AH} {i : Nat} (hr : r.In h) (hi : h.get i = none) (hf : r.tok i = none) {c : List Value} {t : Option Tok} :
    (⟨fun b o => if b = i then c[o]? else none, fun b => if b = i then t else none⟩ : Res).Disj r := by
  refine ⟨fun b o => ?_, fun b => ?_⟩
  · by_cases hb : b = i
    · right
      subst hb
      cases hc : r.cell b o with
      | none => rfl
      | some v => obtain ⟨_, _, _, _, g, _⟩ := hr.cell b o v hc; rw [hi] at g; cases g
    · left; simp [hb]
  · by_cases hb : b = i
    · right; rw [hb]; exact hf
    · left; simp [hb]
def blkR (i : Nat) (c : List Value) (t : Option Tok) : Res := ⟨fun b o => if b = i then c[o]? else none, fun b => if b = i then t else none⟩
theorem blkR_split {i : Nat} {c : List Value} {e : TypeId} {x : Bool} : star [seg i 0 c, mt i (e, x, c.length)] (blkR i c (some (.mt e x c.length))) := by
  refine ⟨segR i 0 c, _, rfl, ⟨_, Res.emp, rfl, rfl, Res.emp_disj.symm, rfl⟩, ?_, ?_⟩
  · rw [Res.add_comm (s := Res.emp) Res.emp_disj.symm, Res.emp_add]
    exact ⟨fun _ _ => .inr rfl, fun _ => .inl rfl⟩
  · rw [Res.add_comm (s := Res.emp) Res.emp_disj.symm, Res.emp_add]
    refine Res.ext' (fun b o => ?_) (fun b => ?_)
    · simp [blkR, Res.add, segR]
    · simp [blkR, Res.add, segR]
theorem Hs.new {c : List Value} {e : TypeId} {x : Bool} (hs : Hs G h L) : Hs G (h.alloc (.cells c e (0, 0) x)) (seg h.next 0 c :: mt h.next (e, x, c.length) :: L) := by
  obtain ⟨r, h1, h2⟩ := hs.res
  have hlive : h.get h.next = none := hs.fr _ (Nat.le_refl _)
  · have hft : r.tok h.next = none := by
      cases ht : r.tok h.next with
      | none => rfl
      | some t =>
        cases t with
        | free => have := (h2.free _ ht).2.1; omega
        | mt e' x' n => obtain ⟨_, _, g, _⟩ := h2.mt _ _ _ _ ht; rw [hlive] at g; cases g
        | oth o => obtain ⟨_, g, _⟩ := h2.oth _ _ ht; rw [hlive] at g; cases g
    have hd : (blkR h.next c (some (.mt e x c.length))).Disj r := newDisj h2 hlive hft
    have hget : ∀ j, (h.alloc (.cells c e (0, 0) x)).get j = if j = h.next then some (.cells c e (0, 0) x) else h.get j := fun j => AH.get_alloc hs.wf
    refine ⟨hs.base, hs.old, Nat.le_succ_of_le hs.wf, fun i hi => by simp at hi; rw [hget, if_neg (by omega)]; exact hs.fr i (by omega), (blkR h.next c (some (.mt e x c.length))).add r, (star_append (L := [seg h.next 0 c, mt h.next (e, x, c.length)])).2 ⟨_, r, blkR_split, h1, hd, rfl⟩, (Res.in_add hd).2 ⟨?_, ?_⟩⟩
    · refine ⟨fun b o v hv => ?_, fun b hv => ?_, fun b e' x' n hv => ?_, fun b o hv => ?_⟩
      · simp only [blkR] at hv
        split at hv
        · rename_i hb; subst hb
          exact ⟨by simp; exact hs.wf, c, e, x, by rw [hget, if_pos rfl], hv⟩
        · cases hv
      · simp only [blkR] at hv; split at hv <;> cases hv
      · simp only [blkR] at hv
        split at hv
        · rename_i hb; subst hb; cases hv
          exact ⟨by simp; exact hs.wf, c, by rw [hget, if_pos rfl], rfl⟩
        · cases hv
      · simp only [blkR] at hv; split at hv <;> cases hv
    · refine h2.of rfl (by simp) fun b hb => ?_
      rw [hget, if_neg]
      intro hbb
      subst hbb
      rcases hb with hb | ⟨o, hb⟩
      · exact hb hft
      · apply hb
        cases hc : r.cell h.next o with
        | none => rfl
        | some v => obtain ⟨_, _, _, _, g, _⟩ := h2.cell _ o v hc; rw [hlive] at g; cases g

end Go.Ab
end
section
namespace Go.Ab
variable {P : Program} {K : FuncId → List Value → Option Ans} {G : Bg} {h : AH} {L L' M : List HP}

theorem Has.of {α : Type} {R : α → HP} {a : α} (m : Has R L a L') (hs : Hs G h L) : Hs G h (R a :: L') := hs.perm m.perm
/-! ### Forms of the print -/
def alcS (h : AH) (_W : Nat) (e : TypeId) (l : List Value) (n c : Nat) (k : Value → AH → Prop) : Prop := alc h (.cells l e (0, 0) true) fun p h' => k (.slice (some ⟨p, 0, none⟩) n c) h'
def alcSAt (h : AH) (r : Nat) (_W : Nat) (e : TypeId) (l : List Value) (n c : Nat) (k : Value → AH → Prop) : Prop := alcAt h r (.cells l e (0, 0) true) fun p h' => k (.slice (some ⟨p, 0, none⟩) n c) h'
def lp (P : Program) (f : FuncId) (p : List Nat) (n : Nat) (e : Nat → Value) (d : Nat) (st : LoopState) (pd : Option Code) : Blk :=
  .loop st pd f ((List.range n).map e) (rgF (cd P f p)).2.1 (rgF (cd P f p)).2.2.1 (rgF (cd P f p)).2.2.2 d
theorem enter_lp {f : FuncId} {p : List Nat} {l n : Nat} {args : List Value} {h : AH} {st : LoopState} {pd : Option Code} {e : Nat → Value} {d : Nat} {lv : List Nat} {vs : List Value} {Q : Value → AH → Prop}
    (hg : h.get l = some (lp P f p n e d st pd)) (hl : args.length = (rgF (cd P f p)).2.1.size)
    (hv : (lv.map fun t => ((((rgF (cd P f p)).2.1.toList.zip args).foldl (fun t (p, v) => t.set p v) ((List.range n).map e))).getD t undef) = vs)
    (H : Pt P K f (some l) (roundOut l Q) n lv (normK 60 [.code (rgF (cd P f p)).2.2.1, .beginRound, .code (rgF (cd P f p)).2.2.2]) [] vs h) : Ok P K (.round l args) h fun o h' => Q o.v h' := by
  have hn : ∀ (ps : List (Tmp × Value)) (l : List Value), (ps.foldl (fun t (p, v) => t.set p v) l).length = l.length := by
    intro ps
    induction ps with
    | nil => intro l; rfl
    | cons x ps ih => intro l; simp [List.foldl_cons, ih]
  exact enter_round hg hl hv (by rw [hn]; simp) fun e' he => norm_sound 60 (H e' he)

/-! ### Memory -/
theorem Hs.oldGet (hs : Hs G h L) {b : Nat} (hb : b < G.base) : h.get b = G.old b := by
  rw [AH.get_eq, hs.base, if_pos hb, hs.old]
/-- a block that is read alone -/
structure Ob (G : Bg) (b : Nat) (c : List Value) : Prop where
  lt : b < G.base
  get : ∃ e fz x, G.old b = some (.cells c e fz x)
theorem r_ld {b o j : Nat} {c : List Value} {v : Value} {k : Value → Prop} (hs : Hs G h L) [m : Has (seg b o) L c L'] (hc : c[j]? = some v) (hk : k v) : thn (ld1 h (pt b o j)) k := by
  obtain ⟨_, c', e, x, hg, h1⟩ := (m.of hs).cellAt hc
  exact ⟨v, by simp [ld1, pt, hg, h1], hk⟩
theorem r_ldo {b o j : Nat} {c : List Value} {v : Value} {k : Value → Prop} (hs : Hs G h L) (ho : Ob G b c) (hc : c[o + j]? = some v) (hk : k v) : thn (ld1 h (pt b o j)) k := by
  obtain ⟨e, fz, x, hg⟩ := ho.get
  exact ⟨v, by simp [ld1, pt, hs.oldGet ho.lt, hg, hc], hk⟩
theorem r_ldN {b o j n : Nat} {c l : List Value} {k : Value → Prop} (hs : Hs G h L) [m : Has (seg b o) L c L'] (hn : 0 < n) (hc : (c.drop j).take n = l) (hl : l.length = n) (hk : k (.agg ⟨l⟩)) : thn (ldN h n (pt b o j)) k := by
  have hlen : j + n ≤ c.length := by
    have := congrArg List.length hc
    simp at this; omega
  obtain ⟨_, c', e, x, hg, h1, h2⟩ := (m.of hs).cells (by omega)
  refine ⟨.agg ⟨l⟩, ?_, hk⟩
  simp only [ldN, pt, loadCellsAt, Option.isSome_none, Bool.false_eq_true, if_false, hg]
  rw [if_pos (by omega)]
  simp only [Option.map_some, Option.some.injEq, Value.agg.injEq, Array.mk.injEq]
  rw [← hc]
  refine List.ext_getElem? fun i => ?_
  rw [List.getElem?_take, List.getElem?_take]
  split
  · rw [List.getElem?_drop, List.getElem?_drop, ← h2 (j + i) (by omega)]
    congr 1; omega
  · rfl
theorem r_ldNo {b o j n : Nat} {c l : List Value} {k : Value → Prop} (hs : Hs G h L) (ho : Ob G b c) (hc : (c.drop (o + j)).take n = l) (hl : l.length = n) (hb : o + j ≤ c.length) (hk : k (.agg ⟨l⟩)) : thn (ldN h n (pt b o j)) k := by
  obtain ⟨e, fz, x, hg⟩ := ho.get
  have := congrArg List.length hc
  simp at this
  exact ⟨.agg ⟨l⟩, by simp [ldN, pt, loadCellsAt, hs.oldGet ho.lt, hg, hc]; omega, hk⟩
/-- cells written over others, place by place -/
def setL : List Value → Nat → List Value → List Value
  | c, 0, [] => c
  | [], 0, _ :: _ => []
  | _ :: c, 0, v :: vs => v :: setL c 0 vs
  | [], _ + 1, _ => []
  | x :: c, j + 1, vs => x :: setL c j vs
theorem setL_splice : ∀ (c : List Value) (j : Nat) (vs : List Value), j + vs.length ≤ c.length → splice c j vs = setL c j vs
  | c, 0, [], _ => by cases c <;> simp [splice, setL]
  | [], 0, _ :: _, h => by simp at h
  | x :: c, 0, v :: vs, h => by
    have := setL_splice c 0 vs (by simp at h ⊢; omega)
    simp only [setL]
    rw [← this]; simp [splice]
  | [], j + 1, vs, h => by simp at h
  | x :: c, j + 1, vs, h => by
    have := setL_splice c j vs (by simp at h ⊢; omega)
    simp only [setL]
    rw [← this]
    simp only [splice, List.take_succ_cons, List.cons_append]
    rw [show j + 1 + vs.length = j + vs.length + 1 by omega, List.drop_succ_cons]
theorem r_st {b o j n : Nat} {c vs : List Value} {v : Value} {k : AH → Prop} (hs : Hs G h L) [m : Has (seg b o) L c L'] (hv : cellsOfV v = some vs) (hn : vs.length = n) (hl : Nat.ble (j + n) c.length = true) (hb : vs.all cellB = true) (h0 : Nat.ble 1 c.length = true)
    (hk : ∀ h', Hs G h' (seg b o (setL c j vs) :: L') → k h') : thn (stV h n (pt b o j) v) k := by
  have hl := Nat.le_of_ble_eq_true hl
  obtain ⟨h', h1, h2⟩ := (m.of hs).write (j := j) (vs := vs) (by omega) hb (Nat.le_of_ble_eq_true h0)
  rw [setL_splice _ _ _ (by omega)] at h2
  exact ⟨h', by simp [stV, pt, hv, hn, h1], hk _ h2⟩
theorem r_new {cs : List Value} {e : TypeId} {k : Nat → AH → Prop} (hs : Hs G h L) (hk : ∀ p h', Hs G h' (seg p 0 cs :: L) → k p h') : alc h (.cells cs e (0, 0) true) k :=
  hk _ _ (let t := hs.new (c := cs) (e := e) (x := true); (t.perm (List.Perm.swap _ _ _)).tail)
theorem r_box {cs : List Value} {e : TypeId} {v : Value} {k : Nat → AH → Prop} (hs : Hs G h L) (hv : cellsOfV v = some cs) (hk : ∀ p h', Hs G h' (seg p 0 cs :: L) → k p h') : thn (blkOf e v) fun b => alc h b k :=
  ⟨.cells cs e (0, 0) true, by simp [blkOf, hv], r_new hs hk⟩

/-! ### Numbers that are kept -/
def frK (r : Nat) (x : Nat × List Nat) : HP := frs r x.1 x.2
theorem r_resv {n : Nat} {k : Nat → AH → Prop} (hs : Hs G h L) (hk : ∀ r h', Hs G h' (frK r (n, []) :: L) → k r h') : resv h n k := by
  refine hk _ _ ?_
  obtain ⟨r, h1, h2⟩ := hs.res
  have hg : ∀ i, ({ h with next := h.next + n } : AH).get i = h.get i := fun i => rfl
  refine ⟨hs.base, hs.old, Nat.le_trans hs.wf (Nat.le_add_right _ _), fun i hi => by rw [hg]; exact hs.fr i (Nat.le_trans (Nat.le_add_right _ _) hi), _, ⟨_, r, rfl, h1, ?_, rfl⟩, (Res.in_add ?_).2 ⟨?_, ?_⟩⟩
  rotate_right
  · exact h2.of rfl (Nat.le_add_right _ _) fun _ _ => rfl
  · have key : ∀ b, h.next ≤ b → r.tok b = none := fun b hb => by
      cases ht : r.tok b with
      | none => rfl
      | some t =>
        cases t with
        | free => have := (h2.free _ ht).2.1; omega
        | mt e' x' n => obtain ⟨_, _, g, _⟩ := h2.mt _ _ _ _ ht; rw [hs.fr b hb] at g; cases g
        | oth o => obtain ⟨_, g, _⟩ := h2.oth _ _ ht; rw [hs.fr b hb] at g; cases g
    refine ⟨fun _ _ => .inl rfl, fun b => ?_⟩
    by_cases hb : h.next ≤ b
    · exact .inr (key b hb)
    · left; simp only; rw [if_neg (by omega)]
  · have key : ∀ b, h.next ≤ b → r.tok b = none := fun b hb => by
      cases ht : r.tok b with
      | none => rfl
      | some t =>
        cases t with
        | free => have := (h2.free _ ht).2.1; omega
        | mt e' x' n => obtain ⟨_, _, g, _⟩ := h2.mt _ _ _ _ ht; rw [hs.fr b hb] at g; cases g
        | oth o => obtain ⟨_, g, _⟩ := h2.oth _ _ ht; rw [hs.fr b hb] at g; cases g
    refine ⟨fun _ _ => .inl rfl, fun b => ?_⟩
    by_cases hb : h.next ≤ b
    · exact .inr (key b hb)
    · left; simp only; rw [if_neg (by omega)]
  · refine ⟨fun _ _ _ hv => (by cases hv), fun b hv => ?_, fun b e x n hv => ?_, fun b o hv => ?_⟩
    · simp only at hv
      split at hv
      · rename_i hc
        have := hs.wf
        exact ⟨by show h.base ≤ b; omega, hc.2.1, by rw [hg]; exact hs.fr b hc.1⟩
      · cases hv
    · simp only at hv; split at hv <;> cases hv
    · simp only at hv; split at hv <;> cases hv
theorem frs_take {r n i : Nat} {D : List Nat} (hi : i < n) (hD : i ∉ D) : star [fun q => q = (⟨fun _ _ => none, fun b => if b = r + i then some .free else none⟩ : Res), frs r n (i :: D)] ⟨fun _ _ => none, fun b => if r ≤ b ∧ b < r + n ∧ (b - r) ∉ D then some .free else none⟩ := by
  refine ⟨_, _, rfl, ⟨_, Res.emp, rfl, rfl, Res.emp_disj.symm, rfl⟩, ?_, ?_⟩
  · rw [Res.add_comm (s := Res.emp) Res.emp_disj.symm, Res.emp_add]
    refine ⟨fun _ _ => .inl rfl, fun b => ?_⟩
    by_cases hb : b = r + i
    · right; simp only; rw [if_neg]; intro hc; apply hc.2.2; rw [hb]; simp
    · left; simp only; rw [if_neg hb]
  · rw [Res.add_comm (s := Res.emp) Res.emp_disj.symm, Res.emp_add]
    refine Res.ext' (fun _ _ => rfl) (fun b => ?_)
    simp only [Res.add]
    by_cases hb : b = r + i
    · rw [if_pos hb, if_pos ⟨by omega, by omega, by rw [hb, Nat.add_sub_cancel_left]; exact hD⟩]; rfl
    · rw [if_neg hb]
      simp only [Option.none_or]
      by_cases hc : r ≤ b ∧ b < r + n ∧ (b - r) ∉ D
      · rw [if_pos hc, if_pos ⟨hc.1, hc.2.1, by simp only [List.mem_cons, not_or]; exact ⟨by omega, hc.2.2⟩⟩]
      · rw [if_neg hc, if_neg]
        intro hc2; apply hc; exact ⟨hc2.1, hc2.2.1, fun hm => hc2.2.2 (List.mem_cons_of_mem _ hm)⟩
theorem Hs.newAt {r n i : Nat} {D : List Nat} {c : List Value} {e : TypeId} {x : Bool} (hs : Hs G h (frs r n D :: L)) (hi : i < n) (hD : i ∉ D) :
    Hs G (h.set (r + i) (some (.cells c e (0, 0) x))) (seg (r + i) 0 c :: mt (r + i) (e, x, c.length) :: frs r n (i :: D) :: L) := by
  obtain ⟨q, ⟨r1, r2, h1, h2, h3, h4⟩, h5⟩ := hs.res
  cases h1
  subst h4
  obtain ⟨i1, i2⟩ := (Res.in_add h3).1 h5
  obtain ⟨q1, q2, hq1, ⟨q3, q4, hq3, hq4, hq5, hq6⟩, hd, hqe⟩ := frs_take (r := r) hi hD
  cases hq1; cases hq4
  rw [Res.add_comm (s := Res.emp) Res.emp_disj.symm, Res.emp_add] at hq6
  subst hq6
  cases hq3
  rw [hqe] at i1 h3
  obtain ⟨i3, i4⟩ := (Res.in_add hd).1 i1
  obtain ⟨fb, fn, fg⟩ := i3.free (r + i) (by simp)
  obtain ⟨d1, d2⟩ := Res.disj_add.1 h3.symm
  have hget : ∀ j, (h.set (r + i) (some (.cells c e (0, 0) x))).get j = if j = r + i then some (.cells c e (0, 0) x) else h.get j := fun j => AH.get_set fb
  have hrest := (Res.in_add d2.symm).2 ⟨i4, i2⟩
  have hft : ((⟨fun _ _ => none, fun b => if r ≤ b ∧ b < r + n ∧ (b - r) ∉ (i :: D) then some .free else none⟩ : Res).add r2).tok (r + i) = none := by
    simp only [Res.add]
    rw [if_neg (by rw [Nat.add_sub_cancel_left]; simp)]
    rcases d1.tok (r + i) with h | h
    · simpa using h
    · simp at h
  have hnd : (blkR (r + i) c (some (.mt e x c.length))).Disj ((⟨fun _ _ => none, fun b => if r ≤ b ∧ b < r + n ∧ (b - r) ∉ (i :: D) then some .free else none⟩ : Res).add r2) := newDisj hrest fg hft
  refine ⟨by simp; exact hs.base, by rw [AH.set_old]; exact hs.old, by simp; exact hs.wf, fun j hj => by simp at hj; rw [hget, if_neg (by omega)]; exact hs.fr j hj,
    _, (star_append (L := [seg (r + i) 0 c, mt (r + i) (e, x, c.length)])).2 ⟨_, _, blkR_split, ⟨_, r2, rfl, h2, d2.symm, rfl⟩, hnd, rfl⟩, (Res.in_add hnd).2 ⟨?_, ?_⟩⟩
  · refine ⟨fun b o v hv => ?_, fun b hv => ?_, fun b e' x' n hv => ?_, fun b o hv => ?_⟩
    · simp only [blkR] at hv
      split at hv
      · rename_i hb; subst hb
        exact ⟨by simp; exact fb, c, e, x, by rw [hget, if_pos rfl], hv⟩
      · cases hv
    · simp only [blkR] at hv; split at hv <;> cases hv
    · simp only [blkR] at hv
      split at hv
      · rename_i hb; subst hb; cases hv
        exact ⟨by simp; exact fb, c, by rw [hget, if_pos rfl], rfl⟩
      · cases hv
    · simp only [blkR] at hv; split at hv <;> cases hv
  · refine hrest.of (by simp) (by simp) fun b hb => ?_
    rw [hget, if_neg]
    intro hbb
    subst hbb
    rcases hb with hb | ⟨o, hb⟩
    · exact hb hft
    · apply hb
      cases hc : Res.cell _ (r + i) o with
      | none => rfl
      | some v => obtain ⟨_, _, _, _, g, _⟩ := hrest.cell _ o v hc; rw [fg] at g; cases g
theorem drop2 {A B : HP} (hs : Hs G h (A :: B :: L)) : Hs G h (A :: L) := (hs.perm (List.Perm.swap _ _ _)).tail
theorem r_newAt {r i n : Nat} {D : List Nat} {cs : List Value} {e : TypeId} {k : Nat → AH → Prop} (hs : Hs G h L) [m : Has (frK r) L (n, D) L'] (hi : Nat.blt i n = true) (hD : D.contains i = false)
    (hk : ∀ p h', Hs G h' (seg p 0 cs :: frK r (n, i :: D) :: L') → k p h') : alcAt h (r + i) (.cells cs e (0, 0) true) k :=
  hk _ _ (drop2 (Hs.newAt (show Hs G h (frs r n D :: L') from m.of hs) (by have := Nat.le_of_ble_eq_true hi; omega) (by simpa using hD)))
theorem r_newAt0 {r n : Nat} {D : List Nat} {cs : List Value} {e : TypeId} {k : Nat → AH → Prop} (hs : Hs G h L) [m : Has (frK r) L (n, D) L'] (hi : Nat.blt 0 n = true) (hD : D.contains 0 = false)
    (hk : ∀ p h', Hs G h' (seg p 0 cs :: frK r (n, 0 :: D) :: L') → k p h') : alcAt h r (.cells cs e (0, 0) true) k :=
  r_newAt (i := 0) hs hi hD hk
theorem r_boxAt {r i n : Nat} {D : List Nat} {cs : List Value} {v : Value} {e : TypeId} {k : Nat → AH → Prop} (hs : Hs G h L) [m : Has (frK r) L (n, D) L'] (hv : cellsOfV v = some cs) (hi : Nat.blt i n = true) (hD : D.contains i = false)
    (hk : ∀ p h', Hs G h' (seg p 0 cs :: frK r (n, i :: D) :: L') → k p h') : thn (blkOf e v) fun b => alcAt h (r + i) b k :=
  ⟨.cells cs e (0, 0) true, by simp [blkOf, hv], r_newAt hs hi hD hk⟩
theorem r_boxAt0 {r n : Nat} {D : List Nat} {cs : List Value} {v : Value} {e : TypeId} {k : Nat → AH → Prop} (hs : Hs G h L) [m : Has (frK r) L (n, D) L'] (hv : cellsOfV v = some cs) (hi : Nat.blt 0 n = true) (hD : D.contains 0 = false)
    (hk : ∀ p h', Hs G h' (seg p 0 cs :: frK r (n, 0 :: D) :: L') → k p h') : thn (blkOf e v) fun b => alcAt h r b k :=
  ⟨.cells cs e (0, 0) true, by simp [blkOf, hv], r_newAt0 hs hi hD hk⟩

/-! ### Blocks that are no memory -/
theorem Hs.newO {o : Blk} (ho : isOth o = true) (hs : Hs G h L) : Hs G (h.alloc o) (ot h.next o :: L) := by
  obtain ⟨r, h1, h2⟩ := hs.res
  have hlive : h.get h.next = none := hs.fr _ (Nat.le_refl _)
  have hft : r.tok h.next = none := by
    cases ht : r.tok h.next with
    | none => rfl
    | some t =>
      cases t with
      | free => have := (h2.free _ ht).2.1; omega
      | mt e' x' n => obtain ⟨_, _, g, _⟩ := h2.mt _ _ _ _ ht; rw [hlive] at g; cases g
      | oth o => obtain ⟨_, g, _⟩ := h2.oth _ _ ht; rw [hlive] at g; cases g
  have hd : (⟨fun _ _ => none, fun b' => if b' = h.next then some (.oth o) else none⟩ : Res).Disj r := by
    refine ⟨fun _ _ => .inl rfl, fun b => ?_⟩
    by_cases hb : b = h.next
    · right; rw [hb]; exact hft
    · left; simp only; rw [if_neg hb]
  have hget : ∀ j, (h.alloc o).get j = if j = h.next then some o else h.get j := fun j => AH.get_alloc hs.wf
  refine ⟨hs.base, hs.old, Nat.le_succ_of_le hs.wf, fun i hi => by simp at hi; rw [hget, if_neg (by omega)]; exact hs.fr i (by omega), _, ⟨_, r, rfl, h1, hd, rfl⟩, (Res.in_add hd).2 ⟨?_, ?_⟩⟩
  · refine ⟨fun _ _ _ hv => (by cases hv), fun b hv => ?_, fun b e' x' n hv => ?_, fun b o' hv => ?_⟩
    · simp only at hv; split at hv <;> cases hv
    · simp only at hv; split at hv <;> cases hv
    · simp only at hv
      split at hv
      · rename_i hb; subst hb; cases hv
        exact ⟨by simp; exact hs.wf, by rw [hget, if_pos rfl], ho⟩
      · cases hv
  · refine h2.of rfl (by simp) fun b hb => ?_
    rw [hget, if_neg]
    intro hbb
    subst hbb
    rcases hb with hb | ⟨o, hb⟩
    · exact hb hft
    · apply hb
      cases hc : r.cell h.next o with
      | none => rfl
      | some v => obtain ⟨_, _, _, _, g, _⟩ := h2.cell _ o v hc; rw [hlive] at g; cases g
theorem Hs.setO {b : Nat} {o o' : Blk} (ho : isOth o' = true) (hs : Hs G h (ot b o :: L)) : h.get b = some o ∧ h.base ≤ b ∧ Hs G (h.set b (some o')) (ot b o' :: L) := by
  obtain ⟨q, ⟨r1, r2, h1, h2, h3, h4⟩, h5⟩ := hs.res
  cases h1
  subst h4
  obtain ⟨i1, i2⟩ := (Res.in_add h3).1 h5
  obtain ⟨gb, gg, goth⟩ := i1.oth b o (by simp)
  have hget : ∀ j, (h.set b (some o')).get j = if j = b then some o' else h.get j := fun j => AH.get_set gb
  have hbn : b < h.next := by
    rcases Nat.lt_or_ge b h.next with h1 | h1
    · exact h1
    · rw [hs.fr b h1] at gg; cases gg
  have ht2 : r2.tok b = none := by rcases h3.tok b with h | h; simp at h; exact h
  have hc2 : ∀ o2, r2.cell b o2 = none := fun o2 => by
    cases hc : r2.cell b o2 with
    | none => rfl
    | some v =>
      obtain ⟨_, _, _, _, g, _⟩ := i2.cell _ o2 v hc
      rw [gg] at g; cases g
      simp [isOth] at goth
  have hd : (⟨fun _ _ => none, fun b' => if b' = b then some (.oth o') else none⟩ : Res).Disj r2 := by
    refine ⟨fun _ _ => .inl rfl, fun b' => ?_⟩
    by_cases hb : b' = b
    · right; rw [hb]; exact ht2
    · left; simp only; rw [if_neg hb]
  refine ⟨gg, gb, by simp; exact hs.base, by rw [AH.set_old]; exact hs.old, by simp; exact hs.wf, fun j hj => by simp at hj; rw [hget, if_neg (by omega)]; exact hs.fr j hj, _, ⟨_, r2, rfl, h2, hd, rfl⟩, (Res.in_add hd).2 ⟨?_, ?_⟩⟩
  · refine ⟨fun _ _ _ hv => (by cases hv), fun b hv => ?_, fun b e' x' n hv => ?_, fun b' o2 hv => ?_⟩
    · simp only at hv; split at hv <;> cases hv
    · simp only at hv; split at hv <;> cases hv
    · simp only at hv
      split at hv
      · rename_i hb; subst hb; cases hv
        exact ⟨by simp; exact gb, by rw [hget, if_pos rfl], ho⟩
      · cases hv
  · refine i2.of (by simp) (by simp) fun b' hb => ?_
    rw [hget, if_neg]
    intro hbb
    subst hbb
    rcases hb with hb | ⟨o2, hb⟩
    · exact hb ht2
    · exact hb (hc2 o2)

/-! ### Loops over functions -/
def lpT (P : Program) (f : FuncId) (p : List Nat) (n : Nat) (e : Nat → Value) (d l : Nat) (x : LoopState × Option Code) : HP := ot l (lp P f p n e d x.1 x.2)
def mk (d : Nat) (_ : Unit) : HP := ot d (.marks true)
theorem r_marks {k : Nat → AH → Prop} (hs : Hs G h L) (hk : ∀ d h', Hs G h' (mk d () :: L) → k d h') : alc h (.marks true) k := hk _ _ (hs.newO rfl)
theorem r_loop {f : FuncId} {p : List Nat} {n : Nat} {e : Nat → Value} {d : Nat} {st : LoopState} {pd : Option Code} {k : Nat → AH → Prop} (hs : Hs G h L) (hk : ∀ l h', Hs G h' (lpT P f p n e d l (st, pd) :: L) → k l h') : alc h (lp P f p n e d st pd) k := hk _ _ (hs.newO rfl)
theorem r_cm0 {k : AH → Prop} (hk : k h) : thn (closeMarks [] h) k := ⟨h, rfl, hk⟩
theorem r_cm1 {d : Nat} {ds : List Nat} {k : AH → Prop} (hs : Hs G h L) [m : Has (mk d) L () L'] (hk : ∀ h', Hs G h' L' → thn (closeMarks ds h') k) : thn (closeMarks (d :: ds) h) k := by
  obtain ⟨h1, h2, h3⟩ := Hs.setO (o' := .marks false) rfl (show Hs G h (ot d (.marks true) :: L') from m.of hs)
  obtain ⟨h', h4, h5⟩ := hk _ h3.tail
  exact ⟨h', by simp only [closeMarks, h1, if_pos h2]; exact h4, h5⟩
theorem r_set {f : FuncId} {p : List Nat} {n : Nat} {e : Nat → Value} {d l : Nat} {st st' : LoopState} {pd pd' : Option Code} {k : AH → Prop} (hs : Hs G h L) [m : Has (lpT P f p n e d l) L (st, pd) L'] (hk : ∀ h', Hs G h' (lpT P f p n e d l (st', pd') :: L') → k h') :
    thn (setLoop h l st' (some pd')) k := by
  obtain ⟨h1, h2, h3⟩ := Hs.setO (o' := lp P f p n e d st' pd') rfl (show Hs G h (ot l (lp P f p n e d st pd) :: L') from m.of hs)
  exact ⟨_, by simp only [setLoop, h1, lp]; rw [if_pos h2]; rfl, hk _ h3⟩
theorem r_begin {f : FuncId} {p : List Nat} {n : Nat} {e : Nat → Value} {d l : Nat} {pd : Option Code} {k : AH → Prop} (hs : Hs G h L) [m : Has (lpT P f p n e d l) L (.ready, pd) L'] (hk : ∀ h', Hs G h' (lpT P f p n e d l (.busy, pd) :: L') → k h') :
    thn (beginV h l) k := by
  obtain ⟨h1, h2, h3⟩ := Hs.setO (o' := lp P f p n e d .busy pd) rfl (show Hs G h (ot l (lp P f p n e d .ready pd) :: L') from m.of hs)
  exact ⟨_, by simp only [beginV, setLoop, h1, lp]; rw [if_pos h2]; rfl, hk _ h3⟩
theorem r_end {f : FuncId} {p : List Nat} {n : Nat} {e : Nat → Value} {d l : Nat} {st : LoopState} {pd : Option Code} {k : Option Code → AH → Prop} (hs : Hs G h L) [m : Has (lpT P f p n e d l) L (st, pd) L'] (hst : st ≠ .busy) (hk : ∀ h', Hs G h' L' → k pd h') :
    thn (endV h l) fun r => k r.1 r.2 := by
  obtain ⟨h1, h2, h3⟩ := Hs.setO (o' := lp P f p n e d .exhausted pd) rfl (show Hs G h (ot l (lp P f p n e d st pd) :: L') from m.of hs)
  refine ⟨(pd, _), ?_, hk _ h3.tail⟩
  simp only [endV, h1, lp]
  rw [if_neg hst]
  simp only [setLoop, h1, lp]
  rw [if_pos h2]; rfl
theorem r_defers {f : FuncId} {p : List Nat} {n : Nat} {e : Nat → Value} {d l : Nat} {st : LoopState} {pd : Option Code} {k : Nat → Prop} (hs : Hs G h L) [m : Has (lpT P f p n e d l) L (st, pd) L'] (hk : k d) : thn (defersOf h l) k := by
  obtain ⟨h1, _, _⟩ := Hs.setO (o' := .marks true) rfl (show Hs G h (ot l (lp P f p n e d st pd) :: L') from m.of hs)
  exact ⟨d, by simp only [defersOf, h1, lp], hk⟩
theorem r_at {f : FuncId} {p : List Nat} {n : Nat} {e : Nat → Value} {d l : Nat} {st : LoopState} {pd : Option Code} (hs : Hs G h L) [m : Has (lpT P f p n e d l) L (st, pd) L'] : h.get l = some (lp P f p n e d st pd) :=
  (Hs.setO (o' := .marks true) rfl (show Hs G h (ot l (lp P f p n e d st pd) :: L') from m.of hs)).1

end Go.Ab
end
section
namespace Go.Ab
variable {P : Program} {K : FuncId → List Value → Option Ans} {G : Bg} {h : AH} {L L' M : List HP}

/-- a slice's own memory: what is told of it is a list of cells -/
def slc (W : Nat) (e : TypeId) (a : Option Addr) (cap : Nat) (x : Nat × List Value) : HP := fun r =>
  x.2.length = x.1 * W ∧ x.2.all cellB = true ∧
  ((x.1 = 0 ∧ r = Res.emp ∧ cap = 0 ∧ (a = none ∨ ∃ b o, a = some ⟨b, o, some 1⟩)) ∨
   (x.1 = 0 ∧ cap = 0 ∧ ∃ b o cs, a = some ⟨b, o, some 2⟩ ∧ o ≤ cs.length ∧ r = blkR b cs (some (.mt e false cs.length))) ∨
   (x.1 ≤ cap ∧ ∃ b pre post ex, a = some ⟨b, pre.length, none⟩ ∧ pre.length + cap * W ≤ (pre ++ x.2 ++ post).length ∧ r = blkR b (pre ++ x.2 ++ post) (some (.mt e ex (pre ++ x.2 ++ post).length))))

theorem slc_nil {W : Nat} {e : TypeId} (hs : Hs G h L) : Hs G h (slc W e none 0 (0, []) :: L) := by
  refine Hs.join (A := []) hs fun r hr => ?_
  exact ⟨by simp, rfl, .inl ⟨rfl, hr, rfl, .inl rfl⟩⟩
theorem star_blk {b : Nat} {c : List Value} {e : TypeId} {x : Bool} {r : Res} (h : star [seg b 0 c, mt b (e, x, c.length)] r) : r = blkR b c (some (.mt e x c.length)) := by
  obtain ⟨r1, r2, h1, ⟨r3, r4, h5, h6, h7, h8⟩, h3, h4⟩ := h
  obtain ⟨q1, q2, g1, ⟨q3, q4, g5, g6, g7, g8⟩, g3, g4⟩ := blkR_split (i := b) (c := c) (e := e) (x := x)
  cases h1; cases h5; cases h6; cases g1; cases g5; cases g6
  subst h8; subst g8
  rw [h4, g4]
theorem r_newS {W : Nat} {e : TypeId} {l : List Value} {n c : Nat} {k : Value → AH → Prop} (hs : Hs G h L) (hl : l.length = c * W) (hn : n = c) (hb : l.all cellB = true)
    (hk : ∀ a h', Hs G h' (slc W e (some a) c (n, l) :: L) → k (.slice (some a) n c) h') : alcS h W e l n c k := by
  subst hn
  refine hk _ _ ?_
  have := hs.new (c := l) (e := e) (x := true)
  refine Hs.join (A := [_, _]) this fun r hr => ?_
  have := star_blk hr
  exact ⟨hl, hb, .inr (.inr ⟨Nat.le_refl _, h.next, [], [], true, rfl, by simp [hl], by simpa using this⟩)⟩
theorem r_newSAt {W r i N : Nat} {D : List Nat} {e : TypeId} {l : List Value} {n c : Nat} {k : Value → AH → Prop} (hs : Hs G h L) [m : Has (frK r) L (N, D) L'] (hi : Nat.blt i N = true) (hD : D.contains i = false) (hl : l.length = c * W) (hn : n = c) (hb : l.all cellB = true)
    (hk : ∀ a h', Hs G h' (slc W e (some a) c (n, l) :: frK r (N, i :: D) :: L') → k (.slice (some a) n c) h') : alcSAt h (r + i) W e l n c k := by
  subst hn
  refine hk _ _ ?_
  have := Hs.newAt (i := i) (c := l) (e := e) (x := true) (show Hs G h (frs r N D :: L') from m.of hs) (by have := Nat.le_of_ble_eq_true hi; omega) (by simpa using hD)
  refine Hs.join (A := [_, _]) this fun q hr => ?_
  have := star_blk hr
  exact ⟨hl, hb, .inr (.inr ⟨Nat.le_refl _, r + i, [], [], true, rfl, by simp [hl], by simpa using this⟩)⟩
theorem r_newSAt0 {W r N : Nat} {D : List Nat} {e : TypeId} {l : List Value} {n c : Nat} {k : Value → AH → Prop} (hs : Hs G h L) [m : Has (frK r) L (N, D) L'] (hi : Nat.blt 0 N = true) (hD : D.contains 0 = false) (hl : l.length = c * W) (hn : n = c) (hb : l.all cellB = true)
    (hk : ∀ a h', Hs G h' (slc W e (some a) c (n, l) :: frK r (N, 0 :: D) :: L') → k (.slice (some a) n c) h') : alcSAt h r W e l n c k :=
  r_newSAt (i := 0) hs hi hD hl hn hb hk

theorem Hs.fst {A : HP} (hs : Hs G h (A :: L)) : ∃ r r2, A r ∧ star L r2 ∧ r.Disj r2 ∧ r.In h ∧ r2.In h := by
  obtain ⟨q, ⟨r1, r2, h1, h2, h3, h4⟩, h5⟩ := hs.res
  subst h4
  obtain ⟨i1, i2⟩ := (Res.in_add h3).1 h5
  exact ⟨r1, r2, h1, h2, h3, i1, i2⟩
theorem Hs.slcLen {W : Nat} {e : TypeId} {a : Option Addr} {cap : Nat} {x : Nat × List Value} (hs : Hs G h (slc W e a cap x :: L)) : x.2.length = x.1 * W := by
  obtain ⟨r, _, hr, _⟩ := hs.fst; exact hr.1
theorem Hs.slcCells {W : Nat} {e : TypeId} {a : Option Addr} {cap : Nat} {x : Nat × List Value} (hs : Hs G h (slc W e a cap x :: L)) : x.2.all cellB = true := by
  obtain ⟨r, _, hr, _⟩ := hs.fst; exact hr.2.1
/-- a slice that is not empty is opened: its cells, and what puts them back -/
theorem Hs.slcOpen {W : Nat} {e : TypeId} {a : Option Addr} {cap n : Nat} {cs : List Value} (hs : Hs G h (slc W e a cap (n, cs) :: L)) (h0 : 0 < n) :
    ∃ b o, a = some ⟨b, o, none⟩ ∧ ∃ H : HP, Hs G h (seg b o cs :: H :: L) ∧ ∀ h' cs' M, cs'.length = cs.length → cs'.all cellB = true → Hs G h' (seg b o cs' :: H :: M) → Hs G h' (slc W e a cap (n, cs') :: M) := by
  have key : ∀ b (pre post : List Value) ex, ∀ cs' : List Value, cs'.length = cs.length → ∀ r, star [seg b pre.length cs', fun r => star [seg b 0 pre, seg b (pre.length + cs.length) post, mt b (e, ex, (pre ++ cs ++ post).length)] r] r ↔ r = blkR b (pre ++ cs' ++ post) (some (.mt e ex (pre ++ cs' ++ post).length)) := by
    intro b pre post ex cs' hl r
    have e1 : (pre ++ cs ++ post).length = (pre ++ cs' ++ post).length := by simp [hl]
    have e2 : ∀ q, star [seg b 0 (pre ++ cs' ++ post), mt b (e, ex, (pre ++ cs' ++ post).length)] q → star [seg b pre.length cs', fun r => star [seg b 0 pre, seg b (pre.length + cs.length) post, mt b (e, ex, (pre ++ cs ++ post).length)] r] q := by
      intro q hq
      obtain ⟨r1, r2, h1, h2, h3, h4⟩ := hq
      have h1' := (seg_split r1).1 h1
      obtain ⟨s1, s2, g1, ⟨s3, s4, g2, g3, g4, g5⟩, g6, g7⟩ := h1'
      have g1' := (seg_split s1).1 g1
      cases g3
      rw [Res.add_comm (s := Res.emp) Res.emp_disj.symm, Res.emp_add] at g5
      subst g5
      have hall : star ([seg b 0 pre, seg b (0 + pre.length) cs'] ++ ([seg b (0 + (pre ++ cs').length) post] ++ [mt b (e, ex, (pre ++ cs' ++ post).length)])) q := by
        refine star_append.2 ⟨s1, s2.add r2, g1', star_append.2 ⟨s2, r2, ⟨s2, Res.emp, g2, rfl, Res.emp_disj.symm, by rw [Res.add_comm (s := Res.emp) Res.emp_disj.symm, Res.emp_add]⟩, h2, ?_, rfl⟩, ?_, ?_⟩
        · rw [g7] at h3; exact (Res.disj_add.1 h3.symm).2.symm
        · rw [g7] at h3
          exact Res.disj_add.2 ⟨g6, (Res.disj_add.1 h3.symm).1.symm⟩
        · rw [h4, g7, Res.add_assoc]
      have hp : star ([seg b (0 + pre.length) cs'] ++ [seg b 0 pre, seg b (0 + (pre ++ cs').length) post, mt b (e, ex, (pre ++ cs' ++ post).length)]) q := star_perm (List.Perm.swap _ _ _) q hall
      obtain ⟨u1, u2, w1, w2, w3, w4⟩ := star_append.1 hp
      rw [Nat.zero_add] at w1
      obtain ⟨v1, v2, x1, x2, x3, x4⟩ := w1
      cases x2
      rw [Res.add_comm (s := Res.emp) Res.emp_disj.symm, Res.emp_add] at x4
      subst x4
      refine ⟨u1, u2, x1, ⟨u2, Res.emp, ?_, rfl, Res.emp_disj.symm, by rw [Res.add_comm (s := Res.emp) Res.emp_disj.symm, Res.emp_add]⟩, w3, w4⟩
      rw [e1]
      simpa [hl] using w2
    constructor
    · intro hr
      have hb := e2 _ (blkR_split (i := b) (c := pre ++ cs' ++ post) (e := e) (x := ex))
      -- both are the same parts
      obtain ⟨r1, r2, h1, ⟨r3, r4, h5, h6, h7, h8⟩, h3, h4⟩ := hr
      obtain ⟨q1, q2, g1, ⟨q3, q4, g5, g6, g7, g8⟩, g3, g4⟩ := hb
      cases h1; cases g1; cases h6; cases g6
      rw [Res.add_comm (s := Res.emp) Res.emp_disj.symm, Res.emp_add] at h8 g8
      subst h8; subst g8
      have : r2 = q2 := by
        obtain ⟨a1, a2, b1, ⟨a3, a4, b2, ⟨a5, a6, b3, b4, b5, b6⟩, b7, b8⟩, b9, b10⟩ := h5
        obtain ⟨c1, c2, d1, ⟨c3, c4, d2, ⟨c5, c6, d3, d4, d5, d6⟩, d7, d8⟩, d9, d10⟩ := g5
        cases b1; cases b2; cases b3; cases b4; cases d1; cases d2; cases d3; cases d4
        subst b6; subst b8; subst d6; subst d8
        rw [b10, d10]
      rw [h4, g4, this]
    · intro hr; subst hr; exact e2 _ blkR_split
  obtain ⟨r, r2, hr, hr2, hd, hi, hi2⟩ := hs.fst
  obtain ⟨hl, hc, hr⟩ := hr
  simp only at hl hc
  rcases hr with ⟨hz, _⟩ | ⟨hz, _⟩ | ⟨hcap, b, pre, post, ex, rfl, hle, hrr⟩
  · simp at hz; omega
  · simp at hz; omega
  · refine ⟨b, pre.length, rfl, fun r => star [seg b 0 pre, seg b (pre.length + cs.length) post, mt b (e, ex, (pre ++ cs ++ post).length)] r, ?_, ?_⟩
    · have hs' : Hs G h ((fun r => r = blkR b (pre ++ cs ++ post) (some (.mt e ex (pre ++ cs ++ post).length))) :: L) := ⟨hs.base, hs.old, hs.wf, hs.fr, _, ⟨r, r2, hrr, hr2, hd, rfl⟩, (Res.in_add hd).2 ⟨hi, hi2⟩⟩
      exact hs'.imp (B := [_, _]) fun q hq => (key b pre post ex cs rfl q).2 hq
    · intro h' cs' M hlen hcells hs'
      refine Hs.join (A := [_, _]) hs' fun q hq => ?_
      have := (key b pre post ex cs' hlen q).1 hq
      refine ⟨by rw [hlen]; exact hl, hcells, .inr (.inr ⟨hcap, b, pre, post, ex, rfl, ?_, this⟩)⟩
      simp [hlen] at hle ⊢; omega

theorem blk_at {b : Nat} {c : List Value} {e : TypeId} {x : Bool} {r2 : Res} (hi : (blkR b c (some (.mt e x c.length))).In h) (_hi2 : r2.In h) : h.base ≤ b ∧ h.get b = some (.cells c e (0, 0) x) := by
  obtain ⟨h1, c', h2, h3⟩ := hi.mt b e x c.length (by simp [blkR])
  refine ⟨h1, ?_⟩
  rw [h2]
  congr 2
  refine List.ext_getElem? fun j => ?_
  rcases Nat.lt_or_ge j c.length with hj | hj
  · obtain ⟨_, c2, e2, x2, g1, g2⟩ := hi.cell b j c[j] (by simp [blkR, hj])
    rw [h2] at g1; cases g1
    rw [g2, List.getElem?_eq_getElem hj]
  · rw [List.getElem?_eq_none (by omega), List.getElem?_eq_none hj]
/-- a block of one's own is given up, and a new one is made -/
theorem Hs.kill {b : Nat} {c c2 : List Value} {e e2 : TypeId} {x x2 : Bool} (hs : Hs G h ((fun r => r = blkR b c (some (.mt e x c.length))) :: L)) : Hs G ((h.set b none).alloc (.cells c2 e2 (0, 0) x2)) ((fun r => r = blkR h.next c2 (some (.mt e2 x2 c2.length))) :: L) := by
  obtain ⟨r, r2, hr, hr2, hd, hi, hi2⟩ := hs.fst
  subst hr
  obtain ⟨hb, hg⟩ := blk_at hi hi2
  have hget : ∀ j, (h.set b none).get j = if j = b then none else h.get j := fun j => AH.get_set hb
  have hn2 : ∀ j, (r2.tok j ≠ none ∨ ∃ o, r2.cell j o ≠ none) → j ≠ b := by
    intro j hj hjb
    subst hjb
    rcases hj with h1 | ⟨o, h1⟩
    · rcases hd.tok j with h | h
      · simp [blkR] at h
      · exact h1 h
    · rcases hd.cell j o with h | h
      · simp only [blkR, if_true] at h
        cases hc : r2.cell j o with
        | none => exact h1 hc
        | some v =>
          obtain ⟨_, c', _, _, g1, g2⟩ := hi2.cell j o v hc
          rw [hg] at g1; cases g1
          rw [h] at g2; cases g2
      · exact h1 h
  have hs' : Hs G (h.set b none) L := by
    refine ⟨by simp; exact hs.base, by rw [AH.set_old]; exact hs.old, by simp; exact hs.wf, fun i hi => by simp at hi; rw [hget]; split; rfl; exact hs.fr i hi, r2, hr2, ?_⟩
    exact hi2.of (by simp) (by simp) fun j hj => by rw [hget, if_neg (hn2 j hj)]
  have := hs'.new (c := c2) (e := e2) (x := x2)
  rw [AH.set_next] at this
  exact Hs.join (A := [_, _]) this fun r hr => star_blk hr

theorem lenOfV_slice {a : Option Addr} {n c : Nat} : lenOfV (.slice a n c) = some n := rfl
theorem r_app {W bytes : Nat} {e : TypeId} {a : Option Addr} {c n m : Nat} {cs ns : List Value} {src : Value} {k : Value → AH → Prop} (hs : Hs G h L) [mm : Has (slc W e a c) L (n, cs) L']
    (hsrc : lenOfV src = some m) (hns : srcCells h W m src = some ns) (hnb : ns.all cellB = true) (hnl : ns.length = m * W) (hsz : (n + m) * (bytes + 1) ≤ 2 ^ 46)
    (hk : ∀ a' c' h', Hs G h' (slc W e a' c' (n + m, cs ++ ns) :: L') → k (.slice a' (n + m) c') h') : thn (appV W bytes e h (.slice a n c) src) fun r => k r.1 r.2 := by
  have hs0 := mm.of hs
  obtain ⟨r, r2, hr, hr2, hd, hi, hi2⟩ := hs0.fst
  obtain ⟨hl, hc, hr⟩ := hr
  simp only at hl hc hr
  have hcond : (!ns.all cellB || ns.length != m * W) = false := by simp [hnb, hnl]
  have hall : (cs ++ ns).all cellB = true := by rw [List.all_append, hc, hnb]; rfl
  have hlen : (cs ++ ns).length = (n + m) * W := by simp [hl, hnl, Nat.add_mul]
  have newS : ∀ {h1 : AH}, Hs G h1 ((fun r => r = blkR h.next (cs ++ ns) (some (.mt e false (cs ++ ns).length))) :: L') → Hs G h1 (slc W e (some ⟨h.next, 0, none⟩) (n + m) (n + m, cs ++ ns) :: L') := by
    intro h1 hh
    refine Hs.join (A := [_]) hh fun q hq => ?_
    obtain ⟨q1, q2, e1, e2, e3, e4⟩ := hq
    cases e1; cases e2
    rw [Res.add_comm (s := Res.emp) Res.emp_disj.symm, Res.emp_add] at e4
    exact ⟨hlen, hall, .inr (.inr ⟨Nat.le_refl _, h.next, [], [], false, rfl, by simp only [List.nil_append, List.append_nil, List.length_nil, Nat.zero_add]; omega, by simpa using e4⟩)⟩
  by_cases hm : m = 0
  · subst hm
    have : ns = [] := List.eq_nil_of_length_eq_zero (by omega)
    subst this
    have hk' := hk a c h (by simpa using hs0)
    rcases hr with ⟨rfl, hre, rfl, ha⟩ | ⟨rfl, rfl, b, o, cs2, rfl, _⟩ | ⟨hcap, b, pre, post, ex, rfl, hle, hrr⟩
    · rcases ha with rfl | ⟨b, o, rfl⟩
      · exact ⟨(.slice none 0 0, h), by simp [appV, lenOfV_slice, hsrc, hns], by simpa using hk'⟩
      · exact ⟨(.slice _ 0 0, h), by simp [appV, lenOfV_slice, hsrc, hns]; rfl, by simpa using hk'⟩
    · exact ⟨(.slice _ 0 0, h), by simp [appV, lenOfV_slice, hsrc, hns]; rfl, by simpa using hk'⟩
    · exact ⟨(.slice _ n c, h), by simp [appV, lenOfV_slice, hsrc, hns, hcap]; rfl, by simpa using hk'⟩
  · have hres : Hs G h L' := hs0.tail
    rcases hr with ⟨rfl, hre, rfl, ha⟩ | ⟨rfl, rfl, b, o, cs2, rfl, ho, hrr⟩ | ⟨hcap, b, pre, post, ex, rfl, hle, hrr⟩
    · have hcs : cs = [] := List.eq_nil_of_length_eq_zero (by simpa using hl)
      subst hcs
      have hnew := hres.new (c := ns) (e := e) (x := false)
      have hn2 := newS (Hs.join (A := [_, _]) hnew fun q hq => star_blk hq)
      have hfit : ¬ (0 + m ≤ 0) := by omega
      rcases ha with rfl | ⟨b, o, rfl⟩
      · refine ⟨(.slice (some ⟨h.next, 0, none⟩) m m, h.alloc (.cells ns e (0, 0) false)), ?_, by simpa using hk _ _ _ hn2⟩
        simp only [appV, hsrc, hns, hcond, Bool.false_eq_true, if_false, hfit, hsz, if_true]
      · refine ⟨(.slice (some ⟨h.next, 0, none⟩) m m, h.alloc (.cells ns e (0, 0) false)), ?_, by simpa using hk _ _ _ hn2⟩
        simp only [appV, hsrc, hns, hcond, Bool.false_eq_true, if_false, hfit, hsz, if_true]
    · have hcs : cs = [] := List.eq_nil_of_length_eq_zero (by simpa using hl)
      subst hcs
      subst hrr
      obtain ⟨hb, hg⟩ := blk_at hi hi2
      have hs1 : Hs G h ((fun r => r = blkR b cs2 (some (.mt e false cs2.length))) :: L') := ⟨hs.base, hs.old, hs.wf, hs.fr, _, ⟨_, r2, rfl, hr2, hd, rfl⟩, (Res.in_add hd).2 ⟨hi, hi2⟩⟩
      have hn2 := newS (hs1.kill (c2 := ns) (e2 := e) (x2 := false))
      have hfit : ¬ (0 + m ≤ 0) := by omega
      refine ⟨(.slice (some ⟨h.next, 0, none⟩) m m, (h.set b none).alloc (.cells ns e (0, 0) false)), ?_, by simpa using hk _ _ _ hn2⟩
      have h12 : ¬ (some 2 = some 1) := by simp
      simp only [appV, hsrc, hns, hcond, Bool.false_eq_true, if_false, hfit, hsz, if_true, h12, hg, hb, ho, and_self]
    · subst hrr
      obtain ⟨hb, hg⟩ := blk_at hi hi2
      by_cases hfit : n + m ≤ c
      · -- there is room
        have hW : (n + m) * W ≤ c * W := Nat.mul_le_mul_right _ hfit
        rw [Nat.add_mul] at hW
        have hs1 : Hs G h ((fun r => r = blkR b (pre ++ cs ++ post) (some (.mt e ex (pre ++ cs ++ post).length))) :: L') := ⟨hs.base, hs.old, hs.wf, hs.fr, _, ⟨_, r2, rfl, hr2, hd, rfl⟩, (Res.in_add hd).2 ⟨hi, hi2⟩⟩
        have hs2 : Hs G h (seg b 0 (pre ++ cs ++ post) :: mt b (e, ex, (pre ++ cs ++ post).length) :: L') := hs1.imp (B := [_, _]) fun q hq => by subst hq; exact blkR_split
        have hpl : pre.length + cs.length + ns.length ≤ (pre ++ cs ++ post).length := by simp at hle ⊢; omega
        by_cases hW0 : ns.length = 0
        · -- cells of no size
          have hns0 : ns = [] := List.eq_nil_of_length_eq_zero hW0
          subst hns0
          refine ⟨(.slice (some ⟨b, pre.length, none⟩) (n + m) c, h.set b (some (.cells (splice (pre ++ cs ++ post) (pre.length + n * W) []) e (0, 0) ex))), ?_, ?_⟩
          · simp only [appV, hsrc, hns, hcond, Bool.false_eq_true, if_false, hfit, if_true, hm, Option.isSome_none, add_none]
            simp only [storeCellsAt, Option.isSome_none, Bool.false_or, List.all_nil, Bool.not_true, Bool.or_false, hg]
            rw [if_neg (by simpa using hb), if_pos ⟨trivial, by simp; omega⟩]
            rfl
          · have hsp : splice (pre ++ cs ++ post) (pre.length + n * W) [] = pre ++ cs ++ post := by simp only [splice, List.append_nil, List.length_nil, Nat.add_zero, List.take_append_drop]
            rw [hsp]
            refine hk _ _ _ ?_
            have : Hs G (h.set b (some (.cells (pre ++ cs ++ post) e (0, 0) ex))) ((fun r => r = blkR b (pre ++ cs ++ post) (some (.mt e ex (pre ++ cs ++ post).length))) :: L') := by
              have hget : ∀ j, (h.set b (some (.cells (pre ++ cs ++ post) e (0, 0) ex))).get j = h.get j := fun j => by
                rw [AH.get_set hb]; split
                · rename_i hj; rw [hj, hg]
                · rfl
              refine ⟨by simp; exact hs.base, by rw [AH.set_old]; exact hs.old, by simp; exact hs.wf, fun i hi => by simp at hi; rw [hget]; exact hs.fr i hi, _, ⟨_, r2, rfl, hr2, hd, rfl⟩, (Res.in_add hd).2 ⟨?_, ?_⟩⟩
              · exact hi.of (by simp) (by simp) fun j _ => hget j
              · exact hi2.of (by simp) (by simp) fun j _ => hget j
            refine Hs.join (A := [_]) this fun q hq => ?_
            obtain ⟨q1, q2, e1, e2, e3, e4⟩ := hq
            cases e1; cases e2
            rw [Res.add_comm (s := Res.emp) Res.emp_disj.symm, Res.emp_add] at e4
            refine ⟨hlen, hall, .inr (.inr ⟨hfit, b, pre, post, ex, rfl, ?_, by simpa using e4⟩)⟩
            simp at hle ⊢; omega
        · obtain ⟨h', hst, hs3⟩ := hs2.write (j := pre.length + cs.length) (vs := ns) hpl hnb (by omega)
          rw [Nat.zero_add] at hst
          refine ⟨(.slice (some ⟨b, pre.length, none⟩) (n + m) c, h'), ?_, ?_⟩
          · simp only [appV, hsrc, hns, hcond, Bool.false_eq_true, if_false, hfit, if_true, hm, Option.isSome_none, add_none]
            rw [← hl, hst]; rfl
          · refine hk _ _ _ ?_
            have hsp : splice (pre ++ cs ++ post) (pre.length + cs.length) ns = pre ++ (cs ++ ns) ++ post.drop ns.length := by
              unfold splice
              rw [List.take_append_of_le_length (by simp), List.take_of_length_le (by simp), List.drop_append]
              have : (pre ++ cs).drop (pre.length + cs.length + ns.length) = [] := List.drop_eq_nil_of_le (by simp)
              rw [this]
              simp only [List.length_append, List.nil_append, List.append_assoc]
              rw [show pre.length + cs.length + ns.length - (pre.length + cs.length) = ns.length by omega]
            rw [hsp] at hs3
            have hll : (pre ++ cs ++ post).length = (pre ++ (cs ++ ns) ++ post.drop ns.length).length := by simp at hpl ⊢; omega
            rw [hll] at hs3
            refine Hs.join (A := [_, _]) hs3 fun q hq => ?_
            exact ⟨hlen, hall, .inr (.inr ⟨hfit, b, pre, post.drop ns.length, ex, rfl, by rw [← hll]; exact hle, star_blk hq⟩)⟩
      · -- it grows
        have hs1 : Hs G h ((fun r => r = blkR b (pre ++ cs ++ post) (some (.mt e ex (pre ++ cs ++ post).length))) :: L') := ⟨hs.base, hs.old, hs.wf, hs.fr, _, ⟨_, r2, rfl, hr2, hd, rfl⟩, (Res.in_add hd).2 ⟨hi, hi2⟩⟩
        have hnW : n * W ≤ c * W := Nat.mul_le_mul_right _ hcap
        have hold : loadCellsAt h ⟨b, pre.length, none⟩ (n * W) = some cs := by
          simp only [loadCellsAt, Option.isSome_none, Bool.false_eq_true, if_false, hg]
          rw [if_pos (by omega)]
          simp only [Option.some.injEq]
          rw [List.append_assoc, List.drop_append_of_le_length (Nat.le_refl _), List.drop_length, List.nil_append, ← hl, List.take_append_of_le_length (Nat.le_refl _), List.take_length]
        have h1 : ¬ ((none : Option Nat) = some 1) := by simp
        have h2 : ¬ ((none : Option Nat) = some 2) := by simp
        cases ex with
        | true =>
          have hn2 := newS (Hs.join (A := [_, _]) (hres.new (c := cs ++ ns) (e := e) (x := false)) fun q hq => star_blk hq)
          refine ⟨(.slice (some ⟨h.next, 0, none⟩) (n + m) (n + m), h.alloc (.cells (cs ++ ns) e (0, 0) false)), ?_, hk _ _ _ hn2⟩
          simp only [appV, hsrc, hns, hcond, Bool.false_eq_true, if_false, hfit, hsz, if_true, h1, h2, hold, hg, hc, Bool.not_true]
        | false =>
          have hn2 := newS (hs1.kill (c2 := cs ++ ns) (e2 := e) (x2 := false))
          refine ⟨(.slice (some ⟨h.next, 0, none⟩) (n + m) (n + m), (h.set b none).alloc (.cells (cs ++ ns) e (0, 0) false)), ?_, hk _ _ _ hn2⟩
          simp only [appV, hsrc, hns, hcond, Bool.false_eq_true, if_false, hfit, hsz, if_true, h1, h2, hold, hg, hc, Bool.not_true, hb, hle, and_self]

end Go.Ab
end
section
namespace Go.Ab
variable {P : Program} {K : FuncId → List Value → Option Ans} {G : Bg} {h : AH} {L L' M : List HP}
abbrev wr (x : Int) : Int := IntKind.i64.wrap x
theorem wr_in {x : Int} (h : -9223372036854775808 ≤ x ∧ x ≤ 9223372036854775807) : wr x = x := IntWalk.i64_in _ (by omega)

section
variable {k : Value → Prop} {a b : Int} {x y : Value}
theorem r_some {α : Type} {o : Option α} {v : α} {k : α → Prop} (hv : o = some v) (hk : k v) : thn o k := ⟨v, hv, hk⟩
theorem r_padd {b o j n : Nat} (hk : k (pt b o (j + n))) : thn (padd n (pt b o j)) k := ⟨_, by simp [padd, pt, add_none, Nat.add_assoc], hk⟩
theorem r_nilP {b o j : Nat} (hk : k (pt b o j)) : thn (nilV (pt b o j)) k := ⟨_, rfl, hk⟩
theorem r_nilF {f : FuncId} {a b : Array Value} (hk : k (.func (.func f) a b)) : thn (nilV (.func (.func f) a b)) k := ⟨_, rfl, hk⟩
theorem r_ext {i : Nat} {vs : List Value} {v : Value} (hv : vs[i]? = some v) (hk : k v) : thn (extV i (.tuple ⟨vs⟩)) k := ⟨v, hv, hk⟩
theorem r_part1 {j : Nat} {l : List Value} {v : Value} (hv : l[j]? = some v) (hk : k v) : thn (part1 j (.agg ⟨l⟩)) k := ⟨v, hv, hk⟩
theorem r_partN {j n : Nat} {l m : List Value} (hn : Nat.ble (j + n) l.length = true) (hm : (l.drop j).take n = m) (hk : k (.agg ⟨m⟩)) : thn (partN j n (.agg ⟨l⟩)) k :=
  ⟨_, by have := Nat.le_of_ble_eq_true hn; simp [partN, this, hm], hk⟩
theorem r_lenS {a : Option Addr} {n c : Nat} (hk : k (I n)) : thn (lenS (.slice a n c)) k := ⟨_, rfl, hk⟩
theorem r_lenT {s : ByteArray} (hk : k (I s.size)) : thn (lenT (.string s)) k := ⟨_, rfl, hk⟩
/-! numbers -/
theorem r_addI (h : -9223372036854775808 ≤ a + b ∧ a + b ≤ 9223372036854775807) (hk : k (I (a + b))) : thn (biI .add (I a) (I b)) k := ⟨_, by show some (Value.int .i64 (wr (a + b))) = _; rw [wr_in h], hk⟩
theorem r_subI (h : -9223372036854775808 ≤ a - b ∧ a - b ≤ 9223372036854775807) (hk : k (I (a - b))) : thn (biI .sub (I a) (I b)) k := ⟨_, by show some (Value.int .i64 (wr (a - b))) = _; rw [wr_in h], hk⟩
theorem r_mulI (h : -9223372036854775808 ≤ a * b ∧ a * b ≤ 9223372036854775807) (hk : k (I (a * b))) : thn (biI .mul (I a) (I b)) k := ⟨_, by show some (Value.int .i64 (wr (a * b))) = _; rw [wr_in h], hk⟩
theorem r_addW (hk : k (I (wr (a + b)))) : thn (biI .add (I a) (I b)) k := ⟨_, rfl, hk⟩
theorem r_subW (hk : k (I (wr (a - b)))) : thn (biI .sub (I a) (I b)) k := ⟨_, rfl, hk⟩
theorem r_mulW (hk : k (I (wr (a * b)))) : thn (biI .mul (I a) (I b)) k := ⟨_, rfl, hk⟩
theorem r_quo (ha : 0 ≤ a) (hb : 0 < b) (h : a ≤ 9223372036854775807) (hk : k (I (a / b))) : thn (biI .quo (I a) (I b)) k := by
  refine ⟨_, ?_, hk⟩
  show aint .quo .i64 a b = _
  simp only [aint]
  rw [if_neg (by omega), Int.tdiv_eq_ediv_of_nonneg ha]
  have h1 : 0 ≤ a / b := Int.ediv_nonneg ha (by omega)
  have h2 : a / b ≤ a := Int.ediv_le_self b ha
  rw [show IntKind.i64.wrap (a / b) = a / b from wr_in (by omega)]
theorem r_rem (ha : 0 ≤ a) (hb : 0 < b) (hk : k (I (a % b))) : thn (biI .rem (I a) (I b)) k := by
  refine ⟨_, ?_, hk⟩
  show aint .rem .i64 a b = _
  simp only [aint]
  rw [if_neg (by omega), Int.tmod_eq_emod_of_nonneg ha]
theorem r_remT (hb : b ≠ 0) (hk : k (I (a.tmod b))) : thn (biI .rem (I a) (I b)) k := by
  refine ⟨_, ?_, hk⟩
  show aint .rem .i64 a b = _
  simp only [aint]
  rw [if_neg hb]
theorem r_eqI (hk : k (.bool (decide (a = b)))) : thn (biI .eql (I a) (I b)) k := ⟨_, by show some (Value.bool (a == b)) = _; rfl, hk⟩
theorem r_neI (hk : k (.bool (decide (a ≠ b)))) : thn (biI .neq (I a) (I b)) k := ⟨_, by show some (Value.bool (a != b)) = _; by_cases h : a = b <;> simp [h], hk⟩
theorem r_ltI (hk : k (.bool (decide (a < b)))) : thn (biI .lss (I a) (I b)) k := ⟨_, rfl, hk⟩
theorem r_leI (hk : k (.bool (decide (a ≤ b)))) : thn (biI .leq (I a) (I b)) k := ⟨_, rfl, hk⟩
theorem r_gtI (hk : k (.bool (decide (b < a)))) : thn (biI .gtr (I a) (I b)) k := ⟨_, rfl, hk⟩
theorem r_geI (hk : k (.bool (decide (b ≤ a)))) : thn (biI .geq (I a) (I b)) k := ⟨_, rfl, hk⟩
theorem r_convI (h : -9223372036854775808 ≤ a ∧ a ≤ 9223372036854775807) (hk : k (I a)) : thn (convI .i64 (I a)) k := ⟨_, by show some (Value.int .i64 (wr a)) = _; rw [wr_in h], hk⟩
theorem r_negI (h : -9223372036854775808 ≤ 0 - a ∧ 0 - a ≤ 9223372036854775807) (hk : k (I (0 - a))) : thn (unV .neg (I a)) k := ⟨_, by show some (Value.int .i64 (wr (0 - a))) = _; rw [wr_in h], hk⟩
/-! pointers, slices held against nil -/
theorem r_ptNe {b o j : Nat} (hk : k (.bool true)) : thn (biP .neq (pt b o j) (.pointer none)) k := ⟨_, rfl, hk⟩
theorem r_ptEq {b o j : Nat} (hk : k (.bool false)) : thn (biP .eql (pt b o j) (.pointer none)) k := ⟨_, rfl, hk⟩
theorem r_not {b : Bool} (hk : k (.bool !b)) : thn (unV .not (.bool b)) k := ⟨_, rfl, hk⟩
/-! places of slices and arrays -/
theorem r_idxS {b o n c sz : Nat} (h0 : 0 ≤ a) (h1 : a < n) (hk : k (pt b (o + a.toNat * sz) 0)) : thn (idxS sz (.slice (some ⟨b, o, none⟩) n c) (I a)) k := ⟨_, by simp [idxS, h0, h1, add_none, pt], hk⟩
theorem r_idxN {b o n c sz i : Nat} (h1 : i < n) (hk : k (pt b (o + i * sz) 0)) : thn (idxS sz (.slice (some ⟨b, o, none⟩) n c) (I i)) k := ⟨_, by simp [idxS, h1, add_none, pt], hk⟩
theorem r_idxA {b o j n sz : Nat} (h0 : 0 ≤ a) (h1 : a < n) (hk : k (pt b o (j + a.toNat * sz))) : thn (idxA n sz (pt b o j) (I a)) k := ⟨_, by simp [idxA, h0, h1, add_none, pt, Nat.add_assoc], hk⟩
/-! what is chosen -/
theorem r_brT {c : Prop} [Decidable c] {p q : Prop} (h : c) (hp : p) : Br (.bool (decide c)) p q := ⟨_, rfl, fun _ => hp, fun hh => absurd h (by simpa using hh)⟩
theorem r_brF {c : Prop} [Decidable c] {p q : Prop} (h : ¬ c) (hq : q) : Br (.bool (decide c)) p q := ⟨_, rfl, fun hh => absurd (by simpa using hh) h, fun _ => hq⟩
theorem r_br {c : Prop} [Decidable c] {p q : Prop} (hp : c → p) (hq : ¬ c → q) : Br (.bool (decide c)) p q := ⟨_, rfl, fun hh => hp (by simpa using hh), fun hh => hq (by simpa using hh)⟩
theorem r_brt {p q : Prop} (hp : p) : Br (.bool true) p q := Br_true.2 hp
theorem r_brf {p q : Prop} (hq : q) : Br (.bool false) p q := Br_false.2 hq
theorem r_brb {b : Bool} {p q : Prop} (hp : b = true → p) (hq : b = false → q) : Br (.bool b) p q := ⟨_, rfl, hp, hq⟩
theorem r_brn {b : Bool} {p q : Prop} (h : Br (.bool b) q p) : Br (.bool !b) p q := by obtain ⟨c, hc, h1, h2⟩ := h; cases hc; cases b; exact ⟨_, rfl, fun _ => h2 rfl, fun h => (by cases h)⟩; exact ⟨_, rfl, fun h => (by cases h), fun _ => h1 rfl⟩
theorem r_pick {c : Bool} {x y : Value} (hk : k (if c then x else y)) : thn (pickV (.bool c) x y) k := ⟨_, rfl, hk⟩
end
theorem r_fill {z c : List Value} {ps : List (Nat × Nat × Value)} {k : List Value → Prop} (hv : fillL z ps = some c) (hk : k c) : thn (fillL z ps) k := ⟨c, hv, hk⟩
theorem r_fl {p q : Prop} (hp : p) (hq : q) : p ∧ q := ⟨hp, hq⟩
theorem veq_I {a : Int} : veq (I a) (I a) = true := by simp [veq]
theorem veq_B {a : Bool} : veq (.bool a) (.bool a) = true := by simp [veq]
theorem veq_P {b o j : Nat} : veq (pt b o j) (pt b o j) = true := by simp [veq, pt]
theorem veq_S {a : Option Addr} {n c : Nat} : veq (.slice a n c) (.slice a n c) = true := by simp [veq]
/-- a range over a function: its record has been made, the function is called -/
theorem r_okR {g : FuncId} {first captured : Array Value} {l : Nat} {q : Value → AH → Prop} (hc : callable P g = true) (hk : Cl P K g (first.toList ++ [.func (.yield l) #[] #[]] ++ captured.toList) h q) : OkR P K (.func (.func g) first captured) l h q := ⟨hc, hk⟩
theorem r_okF {g : FuncId} {first captured : Array Value} {args : List Value} {q : Value → AH → Prop} (hc : callable P g = true) (hk : Cl P K g (first.toList ++ args ++ captured.toList) h q) : OkF P K (.func (.func g) first captured) args h q := ⟨hc, hk⟩

end Go.Ab
end
section
namespace Go.Ab
variable {P : Program} {K : FuncId → List Value → Option Ans} {G : Bg} {h : AH} {L L' M : List HP}

/-- several at once -/
def sp (A : List HP) : HP := fun r => star A r
theorem Hs.pack {A : List HP} (hs : Hs G h (A ++ L)) : Hs G h (sp A :: L) := hs.join fun _ h => h
theorem Hs.unpack {A : List HP} (hs : Hs G h (sp A :: L)) : Hs G h (A ++ L) := hs.imp fun _ h => h
/-- something is somehow -/
def exH {α : Type} (A : α → HP) : HP := fun r => ∃ x, A x r
theorem Hs.exI {α : Type} {A : α → HP} (x : α) (hs : Hs G h (A x :: L)) : Hs G h (exH A :: L) := Hs.join (A := [A x]) hs fun r hr => by
  obtain ⟨r1, r2, h1, h2, _, h4⟩ := hr
  cases h2
  rw [Res.add_comm (s := Res.emp) Res.emp_disj.symm, Res.emp_add] at h4
  subst h4; exact ⟨x, h1⟩
theorem star_one {A : HP} {r : Res} : star [A] r ↔ A r := by
  constructor
  · intro ⟨r1, r2, h1, h2, _, h4⟩
    cases h2
    rw [Res.add_comm (s := Res.emp) Res.emp_disj.symm, Res.emp_add] at h4
    subst h4; exact h1
  · intro hr
    exact ⟨r, Res.emp, hr, rfl, Res.emp_disj.symm, by rw [Res.add_comm (s := Res.emp) Res.emp_disj.symm, Res.emp_add]⟩
theorem Hs.exE {α : Type} {A : α → HP} (hs : Hs G h (exH A :: L)) : ∃ x, Hs G h (A x :: L) := by
  obtain ⟨r, r2, ⟨x, hx⟩, h2, h3, h4, h5⟩ := hs.fst
  exact ⟨x, hs.base, hs.old, hs.wf, hs.fr, _, ⟨r, r2, hx, h2, h3, rfl⟩, (Res.in_add h3).2 ⟨h4, h5⟩⟩
/-- a fact that is no memory -/
def puH (p : Prop) : HP := fun r => p ∧ r = Res.emp
theorem Hs.puI {p : Prop} (hp : p) (hs : Hs G h L) : Hs G h (puH p :: L) := Hs.join (A := []) hs fun _ hr => ⟨hp, hr⟩
theorem Hs.puE {p : Prop} (hs : Hs G h (puH p :: L)) : p ∧ Hs G h L := by
  obtain ⟨r, _, ⟨hp, _⟩, _⟩ := hs.fst
  exact ⟨hp, hs.tail⟩

/-- so many, one by one -/
def big (n : Nat) (f : Nat → HP) : HP := sp ((List.range n).map f)
theorem big_take {n i : Nat} {f : Nat → HP} (hi : i < n) : ((List.range n).map f).Perm (f i :: ((List.range n).erase i).map f) := by
  have : (List.range n).Perm (i :: (List.range n).erase i) := List.perm_cons_erase (List.mem_range.2 hi)
  exact this.map f
theorem Hs.bigOut {n : Nat} {f : Nat → HP} (hs : Hs G h (big n f :: L)) (i : Nat) (hi : i < n) : Hs G h (f i :: sp (((List.range n).erase i).map f) :: L) := by
  have h1 := hs.unpack.perm ((big_take hi).append_right L)
  have h2 : Hs G h (((List.range n).erase i).map f ++ f i :: L) := h1.perm (by simpa using List.perm_middle.symm)
  exact (h2.pack).perm (List.Perm.swap _ _ _)
theorem Hs.bigIn {n i : Nat} {f g : Nat → HP} (hi : i < n) (he : ∀ j, j ≠ i → g j = f j) (hs : Hs G h (g i :: sp (((List.range n).erase i).map f) :: L)) : Hs G h (big n g :: L) := by
  have h1 := (hs.perm (List.Perm.swap _ _ _)).unpack
  have hm : ((List.range n).erase i).map f = ((List.range n).erase i).map g := List.map_congr_left fun j hj => by
    have : j ≠ i := by
      intro e
      subst e
      exact List.Nodup.not_mem_erase List.nodup_range hj
    exact (he j this).symm
  rw [hm] at h1
  refine (h1.perm ?_).pack
  exact (List.perm_middle.trans ((big_take hi).symm.append_right L))
theorem big_congr {n : Nat} {f g : Nat → HP} (he : ∀ j, j < n → g j = f j) (hs : Hs G h (big n f :: L)) : Hs G h (big n g :: L) := by
  have : (List.range n).map f = (List.range n).map g := List.map_congr_left fun j hj => (he j (List.mem_range.1 hj)).symm
  unfold big at hs ⊢
  rw [← this]; exact hs
theorem Hs.big0 {f : Nat → HP} (hs : Hs G h L) : Hs G h (big 0 f :: L) := Hs.pack (A := []) hs
theorem Hs.bigS {n : Nat} {f : Nat → HP} (hs : Hs G h (f n :: big n f :: L)) : Hs G h (big (n + 1) f :: L) := by
  have h1 := (hs.perm (List.Perm.swap _ _ _)).unpack
  refine Hs.pack (A := (List.range (n + 1)).map f) (h1.perm ?_)
  rw [List.range_succ, List.map_append]
  simp

theorem Cl.mono' {f : FuncId} {args : List Value} {Q Q' : Value → AH → Prop} (k : Cl P K f args h Q) (hq : ∀ v h', Q v h' → Q' v h') : Cl P K f args h Q' := k.mono hq
theorem OkF.mono {f : Value} {args : List Value} {Q Q' : Value → AH → Prop} (k : OkF P K f args h Q) (hq : ∀ v h', Q v h' → Q' v h') : OkF P K f args h Q' := by
  unfold OkF at k ⊢
  split at k
  · exact ⟨k.1, Ok.mono k.2 fun _ _ => hq _ _⟩
  · exact Ok.mono k fun _ _ => hq _ _
  · cases k
theorem okF_round {l : Nat} {args : List Value} {Q : Value → AH → Prop} (k : Ok P K (.round l args) h fun o h' => Q o.v h') : OkF P K (.func (.yield l) #[] #[]) args h Q := by
  simpa [OkF] using k
/-- a function that can be ranged over: what it yields, one behind the other; its own memory stays as it is -/
def Yds (P : Program) (K : FuncId → List Value → Option Ans) (G : Bg) (f : FuncId) (first captured : List Value) (A : HP) (xs : List (List Value)) : Prop :=
  ∀ (I : List (List Value) → HP) (J : HP) (y : Value) (L : List HP) (h : AH) (Q : Value → AH → Prop), Hs G h (A :: I xs :: L) →
    (∀ x rest h M, Hs G h (I (x :: rest) :: M) → OkF P K y x h fun v h' => (v = .bool true ∧ Hs G h' (I rest :: M)) ∨ (v = .bool false ∧ Hs G h' (J :: M))) →
    (∀ v h', Hs G h' (A :: I [] :: L) → Q v h') → (∀ v h', Hs G h' (A :: J :: L) → Q v h') → Cl P K f (first ++ [y] ++ captured) h Q
/-! ### One list of chunks out of another one -/
class HasX (A : HP) (L : List HP) (L' : outParam (List HP)) : Prop where
  perm : L.Perm (A :: L')
instance (priority := low) HasX.there {A B : HP} [k : HasX A L L'] : HasX A (B :: L) (B :: L') := ⟨(k.perm.cons B).trans (List.Perm.swap _ _ _)⟩
instance (priority := high) HasX.here {A : HP} : HasX A (A :: L) L := ⟨List.Perm.refl _⟩
instance (priority := high) HasX.app {A B : HP} {L1 L2 : List HP} [k : HasX A (B :: (L1 ++ L2)) L'] : HasX A ((B :: L1) ++ L2) L' := k
instance (priority := high) HasX.app0 {A : HP} {L2 : List HP} [k : HasX A L2 L'] : HasX A ([] ++ L2) L' := k
class Sub (L M : List HP) : Prop where
  to : ∀ r, star L r → ∃ r1 r2, star M r1 ∧ r1.Disj r2 ∧ r = r1.add r2
theorem add_emp {r : Res} : r.add Res.emp = r := by rw [Res.add_comm Res.emp_disj.symm, Res.emp_add]
instance (priority := low) Sub.skip {A : HP} [k : Sub L M] : Sub (A :: L) M := ⟨fun r ⟨r1, r2, h1, h2, h3, h4⟩ => by
  obtain ⟨s1, s2, g1, g2, g3⟩ := k.to r2 h2
  subst g3
  obtain ⟨d1, d2⟩ := Res.disj_add.1 h3
  exact ⟨s1, r1.add s2, g1, Res.disj_add.2 ⟨d1.symm, g2⟩, by rw [h4, ← Res.add_assoc, ← Res.add_assoc, Res.add_comm d1]⟩⟩
instance Sub.take {A : HP} [k : HasX A L L'] [k2 : Sub L' M] : Sub L (A :: M) := ⟨fun r hr => by
  obtain ⟨r1, r2, h1, h2, h3, h4⟩ := star_perm k.perm r hr
  obtain ⟨s1, s2, g1, g2, g3⟩ := k2.to r2 h2
  subst g3
  obtain ⟨d1, d2⟩ := Res.disj_add.1 h3
  exact ⟨r1.add s1, s2, ⟨r1, s1, h1, g1, d1, rfl⟩, (Res.disj_add.2 ⟨d2.symm, g2.symm⟩).symm, by rw [h4, Res.add_assoc]⟩⟩
instance (priority := high) Sub.refl : Sub L L := ⟨fun r hr => ⟨r, Res.emp, hr, Res.emp_disj.symm, add_emp.symm⟩⟩
instance (priority := high) Sub.app {A : HP} {L1 L2 : List HP} [k : Sub L (A :: (L1 ++ L2))] : Sub L ((A :: L1) ++ L2) := k
instance (priority := high) Sub.app0 {L2 : List HP} [k : Sub L L2] : Sub L ([] ++ L2) := k
instance (priority := high) Sub.app' {A : HP} {L1 L2 : List HP} [k : Sub (A :: (L1 ++ L2)) M] : Sub ((A :: L1) ++ L2) M := k
instance (priority := high) Sub.app0' {L2 : List HP} [k : Sub L2 M] : Sub ([] ++ L2) M := k
instance (priority := high) Sub.sp {A : List HP} [k : Sub L (A ++ M)] : Sub L (sp A :: M) := ⟨fun r hr => by
  obtain ⟨s1, s2, g1, g2, g3⟩ := k.to r hr
  obtain ⟨q1, q2, e1, e2, e3, e4⟩ := star_append.1 g1
  exact ⟨s1, s2, ⟨q1, q2, e1, e2, e3, e4⟩, g2, g3⟩⟩
theorem Hs.to (hs : Hs G h L) [k : Sub L M] : Hs G h M := ⟨hs.base, hs.old, hs.wf, hs.fr, by
  obtain ⟨r, h1, h2⟩ := hs.res
  obtain ⟨r1, r2, g1, g2, g3⟩ := k.to r h1
  subst g3
  exact ⟨r1, g1, ((Res.in_add g2).1 h2).1⟩⟩
theorem Hs.at2 {A B : HP} (hs : Hs G h (B :: A :: L)) : Hs G h (A :: B :: L) := hs.perm (List.Perm.swap _ _ _)
theorem sp_pu {p : Prop} {A : List HP} (hp : p) (hs : Hs G h (sp A :: L)) : Hs G h (sp (puH p :: A) :: L) := Hs.pack (A := puH p :: A) (Hs.puI hp hs.unpack)
theorem sp_puE {p : Prop} {A : List HP} (hs : Hs G h (sp (puH p :: A) :: L)) : p ∧ Hs G h (sp A :: L) := let ⟨a, b⟩ := Hs.puE hs.unpack; ⟨a, b.pack⟩
theorem r_endN {a b : Prop} {c : List (Nat × Prop)} (hk : a) : EndX none a b c := hk
theorem r_endR {a b : Prop} {c : List (Nat × Prop)} (hk : b) : EndX (some .ret) a b c := hk
theorem r_endE {a b q : Prop} {c : List (Nat × Prop)} {id : Nat} (hq : c.lookup id = some q) (hk : q) : EndX (some (.exit id)) a b c := by simp only [EndX, hq]; exact hk
theorem pt_at {b o j m : Nat} (h : m ≤ j) : pt b o j = pt b (o + m) (j - m) := by simp only [pt]; rw [show o + m + (j - m) = o + j by omega]
end Go.Ab
end
section
namespace Go.Ab
variable {P : Program} {K : FuncId → List Value → Option Ans} {G : Bg} {h : AH} {L L' M : List HP}

/-! ### The cells of a value, told as they stand -/
class Cv (v : Value) (cs : outParam (List Value)) : Prop where
  eq : cellsOfV v = some cs
instance {a : Int} : Cv (I a) [I a] := ⟨rfl⟩
instance {k : IntKind} {a : Int} : Cv (.int k a) [.int k a] := ⟨rfl⟩
instance {a : Bool} : Cv (.bool a) [.bool a] := ⟨rfl⟩
instance {b o j : Nat} : Cv (pt b o j) [pt b o j] := ⟨rfl⟩
instance {a : Option Addr} : Cv (.pointer a) [.pointer a] := ⟨rfl⟩
instance {a : Option Addr} {n c : Nat} : Cv (.slice a n c) [.slice a n c] := ⟨rfl⟩
instance {s : ByteArray} : Cv (.string s) [.string s] := ⟨rfl⟩
instance {l : List Value} : Cv (.agg ⟨l⟩) l := ⟨rfl⟩
instance {t : TypeId} {v : Value} : Cv (.iface t v) [.iface t v] := ⟨rfl⟩
instance {f : Fn} {a b : Array Value} : Cv (.func f a b) [.func f a b] := ⟨rfl⟩
theorem r_bx {cs : List Value} {e : TypeId} {v : Value} {k : Nat → AH → Prop} (hs : Hs G h L) [hv : Cv v cs] (hk : ∀ p h', Hs G h' (seg p 0 cs :: L) → k p h') : thn (blkOf e v) fun b => alc h b k := r_box hs hv.eq hk
theorem r_bxAt {r i n : Nat} {D : List Nat} {cs : List Value} {v : Value} {e : TypeId} {k : Nat → AH → Prop} (hs : Hs G h L) [m : Has (frK r) L (n, D) L'] [hv : Cv v cs] (hi : Nat.blt i n = true) (hD : D.contains i = false)
    (hk : ∀ p h', Hs G h' (seg p 0 cs :: frK r (n, i :: D) :: L') → k p h') : thn (blkOf e v) fun b => alcAt h (r + i) b k := r_boxAt hs hv.eq hi hD hk
theorem r_bxAt0 {r n : Nat} {D : List Nat} {cs : List Value} {v : Value} {e : TypeId} {k : Nat → AH → Prop} (hs : Hs G h L) [m : Has (frK r) L (n, D) L'] [hv : Cv v cs] (hi : Nat.blt 0 n = true) (hD : D.contains 0 = false)
    (hk : ∀ p h', Hs G h' (seg p 0 cs :: frK r (n, 0 :: D) :: L') → k p h') : thn (blkOf e v) fun b => alcAt h r b k := r_boxAt0 hs hv.eq hi hD hk
theorem r_sto {b o j n : Nat} {c vs : List Value} {v : Value} {k : AH → Prop} (hs : Hs G h L) [m : Has (seg b o) L c L'] [hv : Cv v vs] (hn : vs.length = n) (hl : Nat.ble (j + n) c.length = true) (hb : vs.all cellB = true) (h0 : Nat.ble 1 c.length = true)
    (hk : ∀ h', Hs G h' (seg b o (setL c j vs) :: L') → k h') : thn (stV h n (pt b o j) v) k := r_st hs hv.eq hn hl hb h0 hk
theorem setL_all : ∀ (c vs : List Value), c.length = vs.length → setL c 0 vs = vs
  | [], [], _ => rfl
  | _ :: c, v :: vs, h => by simp only [setL]; rw [setL_all c vs (by simpa using h)]
/-- all of a part is written -/
theorem r_stW {b o n : Nat} {c vs : List Value} {v : Value} {k : AH → Prop} (hs : Hs G h L) [m : Has (seg b o) L c L'] [hv : Cv v vs] (hl : Nat.beq c.length n = true) (h0 : Nat.ble 1 n = true) (hn : vs.length = n) (hb : vs.all cellB = true)
    (hk : ∀ h', Hs G h' (seg b o vs :: L') → k h') : thn (stV h n (pt b o 0) v) k := by
  have hl := Nat.eq_of_beq_eq_true hl
  refine r_st hs hv.eq hn (by rw [hl]; simp) hb (by rw [hl]; exact h0) ?_
  rw [setL_all c vs (by omega)]; exact hk
/-! ### The record of a loop, found by its number -/
structure LpX where
  P : Program
  f : FuncId
  p : List Nat
  n : Nat
  e : Nat → Value
  d : Nat
  st : LoopState
  pd : Option Code
class HasLp (l : Nat) (L : List HP) (x : outParam LpX) (L' : outParam (List HP)) : Prop where
  perm : L.Perm (lpT x.P x.f x.p x.n x.e x.d l (x.st, x.pd) :: L')
instance (priority := low) HasLp.there {l : Nat} {A : HP} {x : LpX} [k : HasLp l L x L'] : HasLp l (A :: L) x (A :: L') := ⟨(k.perm.cons A).trans (List.Perm.swap _ _ _)⟩
instance (priority := high) HasLp.here {l : Nat} {f : FuncId} {p : List Nat} {n : Nat} {e : Nat → Value} {d : Nat} {st : LoopState} {pd : Option Code} : HasLp l (lpT P f p n e d l (st, pd) :: L) ⟨P, f, p, n, e, d, st, pd⟩ L := ⟨List.Perm.refl _⟩
instance (priority := high) HasLp.app {l : Nat} {A : HP} {L1 L2 : List HP} {x : LpX} [k : HasLp l (A :: (L1 ++ L2)) x L'] : HasLp l ((A :: L1) ++ L2) x L' := k
instance (priority := high) HasLp.app0 {l : Nat} {L2 : List HP} {x : LpX} [k : HasLp l L2 x L'] : HasLp l ([] ++ L2) x L' := k
theorem HasLp.of {l : Nat} {x : LpX} [k : HasLp l L x L'] (hs : Hs G h L) : Hs G h (lpT x.P x.f x.p x.n x.e x.d l (x.st, x.pd) :: L') := hs.perm k.perm
section
variable {f : FuncId} {p : List Nat} {n : Nat} {e : Nat → Value} {d l : Nat} {st st' : LoopState} {pd pd' : Option Code}
theorem r_setv {k : AH → Prop} (hs : Hs G h L) [m : HasLp l L ⟨P, f, p, n, e, d, st, pd⟩ L'] (hk : ∀ h', Hs G h' (lpT P f p n e d l (st', pd') :: L') → k h') : thn (setLoop h l st' (some pd')) k := r_set (show Hs G h (lpT P f p n e d l (st, pd) :: L') from m.of hs) hk
theorem r_beginv {k : AH → Prop} (hs : Hs G h L) [m : HasLp l L ⟨P, f, p, n, e, d, .ready, pd⟩ L'] (hk : ∀ h', Hs G h' (lpT P f p n e d l (.busy, pd) :: L') → k h') : thn (beginV h l) k := r_begin (show Hs G h (lpT P f p n e d l (.ready, pd) :: L') from m.of hs) hk
theorem r_endv {k : Option Code × AH → Prop} (hs : Hs G h L) [m : HasLp l L ⟨P, f, p, n, e, d, .ready, pd⟩ L'] (hk : ∀ h', Hs G h' L' → k (pd, h')) : thn (endV h l) k :=
  r_end (P := P) (f := f) (p := p) (n := n) (e := e) (d := d) (st := .ready) (pd := pd) (k := fun a b => k (a, b)) (show Hs G h (lpT P f p n e d l (.ready, pd) :: L') from m.of hs) (by decide) hk
theorem r_endx {k : Option Code × AH → Prop} (hs : Hs G h L) [m : HasLp l L ⟨P, f, p, n, e, d, .exhausted, pd⟩ L'] (hk : ∀ h', Hs G h' L' → k (pd, h')) : thn (endV h l) k :=
  r_end (P := P) (f := f) (p := p) (n := n) (e := e) (d := d) (st := .exhausted) (pd := pd) (k := fun a b => k (a, b)) (show Hs G h (lpT P f p n e d l (.exhausted, pd) :: L') from m.of hs) (by decide) hk
theorem r_defersv {k : Nat → Prop} (hs : Hs G h L) [m : HasLp l L ⟨P, f, p, n, e, d, st, pd⟩ L'] (hk : k d) : thn (defersOf h l) k := r_defers (P := P) (f := f) (p := p) (n := n) (e := e) (d := d) (st := st) (pd := pd) (show Hs G h (lpT P f p n e d l (st, pd) :: L') from m.of hs) hk
theorem r_atv (hs : Hs G h L) [m : HasLp l L ⟨P, f, p, n, e, d, st, pd⟩ L'] : h.get l = some (lp P f p n e d st pd) := r_at (show Hs G h (lpT P f p n e d l (st, pd) :: L') from m.of hs)
end
theorem slc_src {W : Nat} {e : TypeId} {a : Option Addr} {c n : Nat} {cs : List Value} (hs : Hs G h (slc W e a c (n, cs) :: L)) : srcCells h W n (.slice a n c) = some cs := by
  have hl := hs.slcLen
  simp only at hl
  by_cases h0 : n = 0
  · subst h0
    have : cs = [] := List.eq_nil_of_length_eq_zero (by omega)
    subst this
    cases a <;> simp [srcCells]
  · obtain ⟨b, o, rfl, H, hs2, _⟩ := hs.slcOpen (by omega)
    simp only [srcCells, if_neg h0, Nat.le_refl, if_true]
    by_cases hW : n * W = 0
    · have : cs = [] := List.eq_nil_of_length_eq_zero (by omega)
      subst this
      obtain ⟨r, r2, hr, hr2, hd, hi, hi2⟩ := hs.fst
      obtain ⟨_, _, hr⟩ := hr
      rcases hr with ⟨hz, _⟩ | ⟨hz, _⟩ | ⟨hcap, b', pre, post, ex, ha, hle, hrr⟩
      · simp at hz; omega
      · simp at hz; omega
      · cases ha
        subst hrr
        obtain ⟨hb, hg⟩ := blk_at hi hi2
        simp only [loadCellsAt, Option.isSome_none, Bool.false_eq_true, if_false, hg, hW]
        rw [if_pos (by simp)]
        simp
    · obtain ⟨hb, c', e', x', hg, hle, hall⟩ := hs2.cells (by omega)
      simp only [loadCellsAt, Option.isSome_none, Bool.false_eq_true, if_false, hg]
      rw [if_pos (by omega)]
      congr 1
      refine List.ext_getElem? fun j => ?_
      rw [List.getElem?_take]
      split
      · rw [List.getElem?_drop, hall j (by omega)]
      · rw [List.getElem?_eq_none (by omega)]
theorem r_appS {W bytes : Nat} {e : TypeId} {a a2 : Option Addr} {c c2 n m : Nat} {cs ns : List Value} {k : Value × AH → Prop} (hs : Hs G h L) [mm : Has (slc W e a c) L (n, cs) L'] [mn : Has (slc W e a2 c2) L' (m, ns) M] (hsz : (n + m) * (bytes + 1) ≤ 2 ^ 46)
    (hk : ∀ a' c' h', Hs G h' (slc W e a' c' (n + m, cs ++ ns) :: L') → k (.slice a' (n + m) c', h')) : thn (appV W bytes e h (.slice a n c) (.slice a2 m c2)) k := by
  have hs2 := mn.of (mm.of hs).tail
  exact r_app (k := fun x y => k (x, y)) hs lenOfV_slice (slc_src hs2) hs2.slcCells hs2.slcLen hsz hk
theorem Hs.front (A : HP) (hs : Hs G h L) [k : HasX A L L'] : Hs G h (A :: L') := hs.perm k.perm
theorem Hs.front2 (A B : HP) (hs : Hs G h L) [k : HasX A L L'] [k2 : HasX B L' M] : Hs G h (A :: B :: M) := hs.perm (k.perm.trans (k2.perm.cons A))
end Go.Ab
end
section
namespace Go.Ab
variable {P : Program} {K : FuncId → List Value → Option Ans} {G : Bg} {h : AH} {L L' M : List HP}

/-- what is left of a slice without its cells -/
structure HoleP (G : Bg) (W : Nat) (e : TypeId) (a : Option Addr) (cap n b o : Nat) where
  p : HP
  back : ∀ (h' : AH) (cs' : List Value) (M : List HP), cs'.length = n * W → cs'.all cellB = true → Hs G h' (seg b o cs' :: p :: M) → Hs G h' (slc W e a cap (n, cs') :: M)
def hole (G : Bg) (W : Nat) (e : TypeId) (a : Option Addr) (cap n b o : Nat) : HP := exH fun H : HoleP G W e a cap n b o => H.p
theorem Hs.holeOpen {W : Nat} {e : TypeId} {a : Option Addr} {cap n : Nat} {cs : List Value} (hs : Hs G h (slc W e a cap (n, cs) :: L)) (h0 : 0 < n) :
    ∃ b o, a = some ⟨b, o, none⟩ ∧ Hs G h (seg b o cs :: hole G W e a cap n b o :: L) := by
  have hl := hs.slcLen
  simp only at hl
  obtain ⟨b, o, ha, H, hs', hc⟩ := hs.slcOpen h0
  exact ⟨b, o, ha, Hs.at2 (Hs.exI (A := fun H : HoleP G W e a cap n b o => H.p) ⟨H, fun h' cs' M h1 h2 h3 => hc h' cs' M (h1.trans hl.symm) h2 h3⟩ hs'.at2)⟩
theorem Hs.holeClose {W : Nat} {e : TypeId} {a : Option Addr} {cap n b o : Nat} {cs : List Value} (hs : Hs G h (seg b o cs :: hole G W e a cap n b o :: L)) (hl : cs.length = n * W) (hc : cs.all cellB = true) : Hs G h (slc W e a cap (n, cs) :: L) := by
  obtain ⟨⟨H, hH⟩, hs⟩ := Hs.exE (A := fun H : HoleP G W e a cap n b o => H.p) hs.at2
  exact hH _ _ _ hl hc hs.at2
/-- cells told one by one -/
theorem seg_big {b o W : Nat} {c : Nat → List Value} (hc : ∀ i, (c i).length = W) : ∀ (n : Nat) (L : List HP), Hs G h (seg b o ((List.range n).flatMap c) :: L) → Hs G h (big n (fun i => seg b (o + i * W) (c i)) :: L) := by
  intro n
  induction n with
  | zero => intro L hs; exact Hs.big0 hs.tail
  | succ n ih =>
    intro L hs
    rw [List.range_succ, List.flatMap_append] at hs
    have hl : ∀ m, ((List.range m).flatMap c).length = m * W := fun m => by
      induction m with
      | zero => simp
      | succ m ih2 => rw [List.range_succ, List.flatMap_append, List.length_append, ih2]; simp [hc, Nat.succ_mul]
    have hs := hs.split
    simp only [List.flatMap_cons, List.flatMap_nil, List.append_nil, hl] at hs
    exact Hs.bigS (Hs.at2 (ih _ hs))
theorem big_seg {b o W : Nat} {c : Nat → List Value} (hc : ∀ i, (c i).length = W) (_ : 0 < W) : ∀ (n : Nat) (L : List HP), 0 < n → Hs G h (big n (fun i => seg b (o + i * W) (c i)) :: L) → Hs G h (seg b o ((List.range n).flatMap c) :: L) := by
  intro n
  have hl : ∀ m, ((List.range m).flatMap c).length = m * W := fun m => by
    induction m with
    | zero => simp
    | succ m ih2 => rw [List.range_succ, List.flatMap_append, List.length_append, ih2]; simp [hc, Nat.succ_mul]
  induction n with
  | zero => intro L h0; omega
  | succ n ih =>
    intro L _ hs
    have hs := hs.unpack
    rw [List.range_succ, List.map_append, List.append_assoc] at hs
    have hs : Hs G h (big n (fun i => seg b (o + i * W) (c i)) :: seg b (o + n * W) (c n) :: L) := Hs.pack hs
    rw [List.range_succ, List.flatMap_append]
    simp only [List.flatMap_cons, List.flatMap_nil, List.append_nil]
    rcases Nat.eq_zero_or_pos n with h0 | h0
    · subst h0
      simpa using hs.tail
    · exact Hs.unsplit (ih _ h0 hs) (by rw [hl])
/-- each one turned -/
theorem Hs.bigMap {f g : Nat → HP} : ∀ (n : Nat) (L : List HP), (∀ i, i < n → ∀ h L, Hs G h (f i :: L) → Hs G h (g i :: L)) → Hs G h (big n f :: L) → Hs G h (big n g :: L) := by
  intro n
  induction n with
  | zero => intro L _ hs; exact Hs.big0 hs.tail
  | succ n ih =>
    intro L hk hs
    have hs := hs.unpack
    rw [List.range_succ, List.map_append, List.append_assoc] at hs
    have hs : Hs G h (big n f :: f n :: L) := Hs.pack hs
    exact Hs.bigS (hk n (Nat.lt_succ_self n) _ _ (ih _ (fun i hi => hk i (by omega)) hs).at2)
/-- two by two -/
theorem Hs.bigZip {f g k : Nat → HP} (hk : ∀ i h L, Hs G h (f i :: g i :: L) → Hs G h (k i :: L)) : ∀ (n : Nat) (L : List HP), Hs G h (big n f :: big n g :: L) → Hs G h (big n k :: L) := by
  intro n
  induction n with
  | zero => intro L hs; exact Hs.big0 hs.tail.tail
  | succ n ih =>
    intro L hs
    have hs := hs.unpack
    rw [List.range_succ, List.map_append, List.append_assoc] at hs
    have hs : Hs G h (big n f :: f n :: big (n + 1) g :: L) := Hs.pack hs
    have hs : Hs G h (big (n + 1) g :: f n :: big n f :: L) := hs.to
    have hs := hs.unpack
    rw [List.range_succ, List.map_append, List.append_assoc] at hs
    have hs : Hs G h (big n g :: g n :: f n :: big n f :: L) := Hs.pack hs
    have hs : Hs G h (big n f :: big n g :: f n :: g n :: L) := hs.to
    have hs := ih _ hs
    exact Hs.bigS (hk n _ _ (hs.to (M := [f n, g n, big n k] ++ L)))
/-! ### More steps -/
theorem r_at1 {n i : Nat} {l : List Value} {v : Value} {k : Value → Prop} (hi : i < n) (hl : l[i]? = some v) (hk : k v) : thn (at1 n 1 (.agg ⟨l⟩) (I i)) k := ⟨v, by simp [at1, hi, hl], hk⟩
theorem r_at1Z {n : Nat} {a : Int} {l : List Value} {v : Value} {k : Value → Prop} (h0 : 0 ≤ a) (hi : a < n) (hl : l[a.toNat]? = some v) (hk : k v) : thn (at1 n 1 (.agg ⟨l⟩) (I a)) k := ⟨v, by simp [at1, h0, hi, hl], hk⟩
theorem r_idxAn {b o j n sz i : Nat} {k : Value → Prop} (hi : i < n) (hk : k (pt b o (j + i * sz))) : thn (idxA n sz (pt b o j) (I i)) k := ⟨_, by simp [idxA, hi, add_none, pt, Nat.add_assoc], hk⟩
theorem r_mkS {bytes n : Nat} {k : Nat × Nat → Prop} (hn : n ≤ 2 ^ 40) (hb : bytes * n ≤ 2 ^ 47) (hk : k (n, n)) : thn (mkS bytes (I n) (I n)) k := ⟨_, by simp only [mkS]; rw [if_pos (by omega)]; rfl, hk⟩
theorem r_ldNat {b o j n : Nat} {c l : List Value} {k : Value → Prop} (hs : Hs G h L) [m : Has (seg b o) L c L'] (hn : 0 < n) (hc : (c.drop j).take n = l) (hl : l.length = n) (hk : k (.agg ⟨l⟩)) : thn (ldN h n (pt b o j)) k := r_ldN hs hn hc hl hk
/-- all of an old block is read -/
theorem r_ldNg {b n : Nat} {c : List Value} {k : Value → Prop} (hs : Hs G h L) (ho : Ob G b c) (hn : c.length = n) (hk : k (.agg ⟨c⟩)) : thn (ldN h n (.pointer (some ⟨b, 0, none⟩))) k :=
  r_ldNo (o := 0) (j := 0) hs ho (by rw [← hn]; simp) hn (by simp) hk
/-! ### Cells of many parts -/
def updA {α : Type} (f : Nat → α) (i : Nat) (v : α) : Nat → α := fun j => if j = i then v else f j
theorem updA_same {α : Type} {f : Nat → α} {i : Nat} {v : α} : updA f i v i = v := by simp [updA]
theorem updA_ne {α : Type} {f : Nat → α} {i j : Nat} {v : α} (h : j ≠ i) : updA f i v j = f j := by simp [updA, h]
theorem flat_len {W : Nat} {c : Nat → List Value} (hc : ∀ i, (c i).length = W) (m : Nat) : ((List.range m).flatMap c).length = m * W := by
  induction m with
  | zero => simp
  | succ m ih2 => rw [List.range_succ, List.flatMap_append, List.length_append, ih2]; simp [hc, Nat.succ_mul]
theorem flat_at {W : Nat} {c : Nat → List Value} (hc : ∀ i, (c i).length = W) {i : Nat} : ∀ (n : Nat), i < n → ∃ pre post, (List.range n).flatMap c = pre ++ (c i ++ post) ∧ pre.length = i * W ∧ ∀ x, (List.range n).flatMap (updA c i x) = pre ++ (x ++ post) := by
  intro n
  induction n with
  | zero => intro h; omega
  | succ n ih =>
    intro h
    by_cases hi : i = n
    · subst hi
      refine ⟨(List.range i).flatMap c, [], ?_, flat_len hc i, fun x => ?_⟩
      · rw [List.range_succ, List.flatMap_append]; simp
      · rw [List.range_succ, List.flatMap_append]
        congr 1
        · rw [List.flatMap_def, List.flatMap_def]
          congr 1
          exact List.map_congr_left fun j hj => updA_ne (by have := List.mem_range.1 hj; omega)
        · simp [updA_same]
    · obtain ⟨pre, post, h1, h2, h3⟩ := ih (by omega)
      refine ⟨pre, post ++ c n, ?_, h2, fun x => ?_⟩
      · rw [List.range_succ, List.flatMap_append, h1]; simp
      · rw [List.range_succ, List.flatMap_append, h3]
        simp [updA_ne (Ne.symm hi)]
/-- one of the parts of a slice is taken out, and may be put back -/
theorem Hs.elemF {W : Nat} {e : TypeId} {a : Option Addr} {cap n i : Nat} {c : Nat → List Value} (hc : ∀ i, (c i).length = W) (hi : i < n) (hs : Hs G h (slc W e a cap (n, (List.range n).flatMap c) :: L)) :
    ∃ b o, a = some ⟨b, o, none⟩ ∧ ∃ H : HP, Hs G h (seg b (o + i * W) (c i) :: H :: L) ∧ ∀ h' x M, x.length = W → x.all cellB = true → Hs G h' (seg b (o + i * W) x :: H :: M) → Hs G h' (slc W e a cap (n, (List.range n).flatMap (updA c i x)) :: M) := by
  have hcell := hs.slcCells
  simp only at hcell
  obtain ⟨b, o, ha, hs⟩ := hs.holeOpen (by omega)
  obtain ⟨pre, post, h1, h2, h3⟩ := flat_at hc n hi
  rw [h1] at hs hcell
  have hs := hs.split.at2.split
  rw [h2] at hs
  refine ⟨b, o, ha, sp [seg b o pre, seg b (o + i * W + (c i).length) post, hole G W e a cap n b o], ?_, ?_⟩
  · exact (Hs.pack (A := [seg b o pre, seg b (o + i * W + (c i).length) post, hole G W e a cap n b o]) hs.to).at2
  · intro h' x M hx hxc hs
    have hs : Hs G h' (seg b (o + i * W) x :: seg b (o + i * W + (c i).length) post :: seg b o pre :: hole G W e a cap n b o :: M) := (hs.at2.unpack).to
    have hs := Hs.unsplit hs (by rw [hx, hc])
    have hs := Hs.unsplit hs.at2 (by rw [h2])
    refine Hs.holeClose (by rw [h3]; exact hs) (flat_len (fun j => by unfold updA; split; exact hx; exact hc j) n) ?_
    rw [h3]
    simp only [List.all_append, Bool.and_eq_true] at hcell ⊢
    exact ⟨hcell.1, hxc, hcell.2.2⟩
/-- a part is brought ahead, told as it is asked for -/
theorem Hs.sg {b o : Nat} {c c' : List Value} (hs : Hs G h L) [m : Has (seg b o) L c' L'] (hc : c' = c) : Hs G h (seg b o c :: L') := by subst hc; exact m.of hs
theorem Hs.bigPut {n i : Nat} (f g : Nat → HP) (hi : i < n) (he : ∀ j, j < n → j ≠ i → g j = f j) (hs : Hs G h L) [k : HasX (g i) L L'] [k2 : HasX (sp (((List.range n).erase i).map f)) L' M] : Hs G h (big n g :: M) := by
  have hs := hs.front2 (g i) (sp (((List.range n).erase i).map f))
  have h1 := (hs.perm (List.Perm.swap _ _ _)).unpack
  have hm : ((List.range n).erase i).map f = ((List.range n).erase i).map g := List.map_congr_left fun j hj => by
    have : j ≠ i := by
      intro e
      subst e
      exact List.Nodup.not_mem_erase List.nodup_range hj
    exact (he j (List.mem_range.1 (List.mem_of_mem_erase hj)) this).symm
  rw [hm] at h1
  refine (h1.perm ?_).pack
  exact (List.perm_middle.trans ((big_take hi).symm.append_right M))
theorem r_mkSI {bytes : Nat} {a : Int} {k : Nat × Nat → Prop} (h0 : 0 ≤ a) (hn : a ≤ 2 ^ 40) (hb : bytes * a ≤ 2 ^ 47) (hk : k (a.toNat, a.toNat)) : thn (mkS bytes (I a) (I a)) k := ⟨_, by simp only [mkS]; rw [if_pos (by omega)], hk⟩
theorem zerosA_flat (z : List Value) (n : Nat) : zerosA z n = (List.range n).flatMap fun _ => z := by
  induction n with
  | zero => rfl
  | succ n ih => rw [List.range_succ, List.flatMap_append, ← ih]; simp [zerosA, List.replicate_succ']
theorem flat_cells {c : Nat → List Value} (hc : ∀ i, (c i).all cellB = true) (n : Nat) : ((List.range n).flatMap c).all cellB = true := by
  induction n with
  | zero => rfl
  | succ n ih => rw [List.range_succ, List.flatMap_append, List.all_append, ih]; simp [hc]
/-- a new slice of equal parts, taken apart -/
theorem Hs.newBig {W : Nat} {e : TypeId} {z : List Value} {a : Option Addr} {cap n : Nat} (hz : z.length = W) (h0 : 0 < n) (hs : Hs G h (slc W e a cap (n, zerosA z n) :: L)) : ∃ b o, a = some ⟨b, o, none⟩ ∧ Hs G h (big n (fun i => seg b (o + i * W) z) :: hole G W e a cap n b o :: L) := by
  obtain ⟨b, o, ha, hs⟩ := hs.holeOpen h0
  rw [zerosA_flat] at hs
  exact ⟨b, o, ha, seg_big (fun _ => hz) n _ hs⟩
theorem Hs.front3 {L1 L2 L3 : List HP} (A B C : HP) (hs : Hs G h L) [k : HasX A L L1] [k2 : HasX B L1 L2] [k3 : HasX C L2 L3] : Hs G h (A :: B :: C :: L3) := hs.perm (k.perm.trans ((k2.perm.trans (k3.perm.cons B)).cons A))
/-- a cell further on in a part -/
theorem r_ldI {b o i j : Nat} {c : List Value} {v : Value} {k : Value → Prop} (hs : Hs G h L) [m : Has (seg b o) L c L'] (hc : c[i + j]? = some v) (hk : k v) : thn (ld1 h (pt b (o + i) j)) k := by
  have : pt b (o + i) j = pt b o (i + j) := by simp only [pt]; rw [Nat.add_assoc]
  rw [this]; exact r_ld hs hc hk
theorem r_neA {a b c d : Bool} {k : Value → Prop} (hk : k (.bool (a || b || c || d))) : thn (biA [1, 1, 1, 1] .neq (.agg ⟨[.bool a, .bool b, .bool c, .bool d]⟩) (.agg ⟨[.bool false, .bool false, .bool false, .bool false]⟩)) k :=
  ⟨_, by cases a <;> cases b <;> cases c <;> cases d <;> rfl, hk⟩
theorem updA_twice {α : Type} {f : Nat → α} {i : Nat} {v w : α} : updA (updA f i v) i w = updA f i w := by funext j; unfold updA; split <;> rfl
theorem veqL_of : ∀ (l : List Value), (∀ v ∈ l, veq v v = true) → veqL l l = true
  | [], _ => by simp [veqL]
  | a :: l, h => by simp only [veqL, h a List.mem_cons_self, Bool.true_and]; exact veqL_of l fun v hv => h v (List.mem_cons_of_mem _ hv)
theorem veq_agg {l : List Value} (h : ∀ v ∈ l, veq v v = true) : veq (.agg ⟨l⟩) (.agg ⟨l⟩) = true := by
  simp only [veq, veqA]; exact veqL_of l h
end Go.Ab
end
section
namespace Go.Ab
variable {P : Program} {K : FuncId → List Value → Option Ans} {G : Bg} {h : AH} {L L' M : List HP}
theorem slc_put {W : Nat} {e : TypeId} {a : Option Addr} {cap : Nat} {x : Nat × List Value} {r : Res} (hs : Hs G h ((fun q => q = r) :: L)) (hr : slc W e a cap x r) : Hs G h (slc W e a cap x :: L) :=
  Hs.join (A := [_]) hs fun q hq => by
    rw [star_one] at hq; subst hq; exact hr
/-- all but the first one -/
theorem r_slTail {W n c : Nat} {e : TypeId} {a : Option Addr} {cs : List Value} {k : Value → Prop} (hs : Hs G h L) [m : Has (slc W e a c) L (n + 1, cs) L'] (hk : ∀ a' c', Hs G h (slc W e a' c' (n, cs.drop W) :: L') → k (.slice a' n c')) : thn (slS W h (.slice a (n + 1) c) (some (I 1)) none none) k := by
  have hs := m.of hs
  obtain ⟨r, r2, ⟨hl, hc, hr⟩, hr2, hd, hi, hi2⟩ := hs.fst
  simp only at hl hc
  have hcd : (cs.drop W).all cellB = true := List.all_eq_true.2 fun v hv => List.all_eq_true.1 hc v (List.mem_of_mem_drop hv)
  have hld : (cs.drop W).length = n * W := by rw [List.length_drop, hl, Nat.succ_mul]; omega
  rcases hr with ⟨hz, _⟩ | ⟨hz, _⟩ | ⟨hcap, b, pre, post, ex, rfl, hle, hrr⟩
  · simp at hz
  · simp at hz
  · simp only at hcap hle hrr
    subst hrr
    obtain ⟨hb, hg⟩ := blk_at hi hi2
    have h1 : bnd (some (I 1)) 0 (n + 1) = some 1 := by simp only [bnd]; rw [if_pos (by omega)]; rfl
    have h0 : bnd none c c = some c := rfl
    have h2 : bnd none (n + 1) c = some (n + 1) := rfl
    by_cases hc1 : c = 1
    · have hn : n = 0 := by omega
      subst hc1; subst hn
      have hex : exactAt h b = some ex := by simp only [exactAt, hg]
      have hd0 : cs.drop W = [] := List.eq_nil_of_length_eq_zero (by omega)
      cases ex with
      | true =>
        refine ⟨empty0, by simp only [slS, h0, h1, h2, Option.isNone_none, Option.isSome_none, Bool.and_false, Bool.false_eq_true, if_false, hex]; simp, hk _ _ ?_⟩
        rw [hd0]
        refine Hs.join (A := []) hs.tail fun q hq => ⟨by simp, rfl, .inl ⟨rfl, hq, rfl, .inr ⟨0, 0, rfl⟩⟩⟩
      | false =>
        refine ⟨dangling ⟨b, pre.length + 1 * W, none⟩, by simp only [slS, h0, h1, h2, Option.isNone_none, Option.isSome_none, Bool.and_false, Bool.false_eq_true, if_false, hex, add_none]; simp, hk _ _ ?_⟩
        rw [hd0]
        refine slc_put (r := blkR b (pre ++ cs ++ post) (some (.mt e false (pre ++ cs ++ post).length))) ⟨hs.base, hs.old, hs.wf, hs.fr, _, ⟨_, r2, rfl, hr2, hd, rfl⟩, (Res.in_add hd).2 ⟨hi, hi2⟩⟩ ?_
        refine ⟨by simp, rfl, .inr (.inl ⟨rfl, rfl, b, pre.length + 1 * W, pre ++ cs ++ post, rfl, ?_, rfl⟩)⟩
        simp only [List.length_append] at hle ⊢; omega
    · refine ⟨.slice (some ⟨b, pre.length + 1 * W, none⟩) n (c - 1), ?_, hk _ _ ?_⟩
      · have hm : ¬ c = 1 := hc1
        simp only [slS, h0, h1, h2, Option.isNone_none, Option.isSome_none, Bool.and_false, Bool.false_eq_true, if_false, hm, add_none]
        rw [if_pos hcap]; rfl
      · have e1 : pre ++ cs ++ post = (pre ++ cs.take W) ++ cs.drop W ++ post := by simp
        have e2 : (pre ++ cs.take W).length = pre.length + 1 * W := by
          rw [List.length_append, List.length_take, hl, Nat.succ_mul]; omega
        refine slc_put (r := blkR b (pre ++ cs ++ post) (some (.mt e ex (pre ++ cs ++ post).length))) ⟨hs.base, hs.old, hs.wf, hs.fr, _, ⟨_, r2, rfl, hr2, hd, rfl⟩, (Res.in_add hd).2 ⟨hi, hi2⟩⟩ ?_
        refine ⟨hld, hcd, .inr (.inr ⟨by simp only; omega, b, pre ++ cs.take W, post, ex, by rw [e2], ?_, by rw [← e1]⟩)⟩
        simp only
        rw [← e1, e2]
        have : c * W = (c - 1) * W + W := by rw [← Nat.succ_mul]; congr 1; omega
        omega
/-- cells further on in a part -/
theorem r_ldNI {b o i j n : Nat} {c l : List Value} {k : Value → Prop} (hs : Hs G h L) [m : Has (seg b o) L c L'] (hn : 0 < n) (hc : (c.drop (i + j)).take n = l) (hl : l.length = n) (hk : k (.agg ⟨l⟩)) : thn (ldN h n (pt b (o + i) j)) k := by
  have : pt b (o + i) j = pt b o (i + j) := by simp only [pt]; rw [Nat.add_assoc]
  rw [this]; exact r_ldN hs hn hc hl hk
end Go.Ab
end
section
namespace Go.Ab
variable {P : Program} {K : FuncId → List Value → Option Ans} {h : AH}
theorem ok_fwd {f g : FuncId} {args bs : List Value} {Q : Value → AH → Prop} (hK : K f args = some (.fwd g bs)) (hw : Cl P K g bs h fun v h' => fwdOk v = true ∧ Q v h') : Cl P K f args h Q := by
  obtain ⟨n, ⟨o, h1⟩, hr, hf, hq⟩ := hw
  exact ⟨n + 1, (⟨.fell, [], [], o.v⟩, h1), by show runCall _ _ _ _ _ _ = _; simp only [runCall, hK, hr, hf, if_true], hq⟩
theorem r_shr {a b : Int} {k : Value → Prop} (hb : 0 ≤ b) (hk : k (I (a.fdiv (2 ^ (min b.toNat 64))))) : thn (biI .shr (I a) (I b)) k := by
  refine ⟨_, ?_, hk⟩
  show aint .shr .i64 a b = _
  simp only [aint, ashift]
  rw [if_neg (by omega)]; rfl
end Go.Ab
end
section
namespace Go.Ab
variable {P : Program} {K : FuncId → List Value → Option Ans} {G : Bg} {h : AH} {L L' M : List HP}
/-- the last elements are no more told of -/
theorem slc_shrink {W n m c : Nat} {e : TypeId} {a : Option Addr} {cs zs : List Value} (hm : m ≤ n) (h0 : 0 < n) (hl : cs.length = m * W) (hs : Hs G h (slc W e a c (n, cs ++ zs) :: L)) : Hs G h (slc W e a c (m, cs) :: L) := by
  obtain ⟨r, r2, ⟨hl2, hc, hr⟩, hr2, hd, hi, hi2⟩ := hs.fst
  simp only at hl2 hc
  have hcd : cs.all cellB = true := by rw [List.all_append, Bool.and_eq_true] at hc; exact hc.1
  rcases hr with ⟨hz, _⟩ | ⟨hz, _⟩ | ⟨hcap, b, pre, post, ex, rfl, hle, hrr⟩
  · simp only at hz; omega
  · simp only at hz; omega
  · simp only at hcap hle hrr
    subst hrr
    refine slc_put (r := blkR b (pre ++ (cs ++ zs) ++ post) (some (.mt e ex (pre ++ (cs ++ zs) ++ post).length))) ⟨hs.base, hs.old, hs.wf, hs.fr, _, ⟨_, r2, rfl, hr2, hd, rfl⟩, (Res.in_add hd).2 ⟨hi, hi2⟩⟩ ?_
    have e1 : pre ++ (cs ++ zs) ++ post = pre ++ cs ++ (zs ++ post) := by simp
    refine ⟨hl, hcd, .inr (.inr ⟨by simp only; omega, b, pre, zs ++ post, ex, rfl, ?_, by rw [e1]⟩)⟩
    rw [← e1]; exact hle
theorem seg_load {b o j m : Nat} {c : List Value} (hs : Hs G h (seg b o c :: L)) (h0 : 0 < c.length) (hm : j + m ≤ c.length) : loadCellsAt h ⟨b, o + j, none⟩ m = some ((c.drop j).take m) := by
  obtain ⟨hb, c', e', x', hg, hle, hall⟩ := hs.cells h0
  simp only [loadCellsAt, Option.isSome_none, Bool.false_eq_true, if_false, hg]
  rw [if_pos (by omega)]
  congr 1
  refine List.ext_getElem? fun k => ?_
  rw [List.getElem?_take, List.getElem?_take]
  split
  · rw [List.getElem?_drop, List.getElem?_drop, Nat.add_assoc, hall (j + k) (by omega)]
  · rfl
theorem splice_last {A B z : List Value} {j : Nat} (h1 : A.length = j) (h2 : B.length = z.length) : splice (A ++ B) j z = A ++ z := by
  subst h1
  unfold splice
  rw [List.take_left, List.drop_eq_nil_of_le (by rw [List.length_append]; omega), List.append_nil]
theorem take_take_drop {α : Type} (l : List α) (i : Nat) : l.take i ++ l.drop i = l := List.take_append_drop i l
/-- what is behind an element goes one back: append(s[:i], s[i+1:]...), and the last one is cleared -/
theorem r_del {W bytes n i c : Nat} {e : TypeId} {a : Option Addr} {cs z : List Value} {k : Value → AH → Prop} (hW : 0 < W) (hz : z.length = W) (hzc : z.all cellB = true) (hi : i < n) (hs : Hs G h L) [m : Has (slc W e a c) L (n, cs) L']
    (hk : ∀ h', Hs G h' (slc W e a c (n - 1, cs.take (i * W) ++ cs.drop ((i + 1) * W)) :: L') → k (.slice a (n - 1) c) h') :
    thn (slS W h (.slice a n c) none (some (I i)) none) fun v3 => thn (slS W h (.slice a n c) (some (I ((i : Int) + 1))) none none) fun v4 =>
      thn (appV W bytes e h v3 v4) fun r5 => thn (lenS r5.1) fun v8 => thn (slS W r5.2 r5.1 (some v8) (some (I n)) none) fun v9 => thn (clearV z r5.2 v9) fun r10 => k r5.1 r10.2 := by
  have hs := m.of hs
  have hl := hs.slcLen
  have hc := hs.slcCells
  simp only at hl hc
  have hcap : n ≤ c := by
    obtain ⟨r, r2, ⟨_, _, hr⟩, _⟩ := hs.fst
    rcases hr with ⟨hz, _⟩ | ⟨hz, _⟩ | ⟨hcap, _⟩
    · simp only at hz; omega
    · simp only at hz; omega
    · exact hcap
  obtain ⟨b, o, rfl, H, hs2, close⟩ := hs.slcOpen (by omega)
  have hpos : 0 < n * W := Nat.mul_pos (by omega) hW
  have hcl : 0 < cs.length := by omega
  have b1 : bnd none c c = some c := rfl
  have b2 : bnd (some (I i)) n c = some i := by simp only [bnd]; rw [if_pos (by omega)]; simp
  have b3 : bnd none 0 i = some 0 := rfl
  have b4 : bnd none n c = some n := rfl
  have b5 : bnd (some (I ((i : Int) + 1))) 0 n = some (i + 1) := by simp only [bnd]; rw [if_pos (by omega)]; congr 1
  have b6 : bnd (some (I ((n - 1 : Nat) : Int))) 0 n = some (n - 1) := by simp only [bnd]; rw [if_pos (by omega)]; simp
  have b7 : bnd (some (I n)) n c = some n := by simp only [bnd]; rw [if_pos (by omega)]; simp
  have hne0 : ¬ c = 0 := by omega
  refine ⟨.slice (some ⟨b, o, none⟩) i c, ?_, ?_⟩
  · simp only [slS, b1, b2, b3, Option.isNone_some, Bool.false_and, Option.isSome_none, Bool.false_eq_true, if_false, hne0, add_none]
    rw [if_pos (by omega)]
    simp
  have mulS : (i + 1) * W = i * W + W := by rw [Nat.add_mul, Nat.one_mul]
  have hiW : (i + 1) * W ≤ n * W := Nat.mul_le_mul_right W hi
  have hrest : (n - (i + 1)) * W = n * W - (i + 1) * W := Nat.sub_mul _ _ _
  have hnW : (n - 1) * W = n * W - W := by rw [Nat.sub_mul, Nat.one_mul]
  -- behind the append
  have fin : ∀ h1, Hs G h1 (seg b o (cs.take (i * W) ++ cs.drop ((i + 1) * W) ++ cs.drop ((n - 1) * W)) :: H :: L') →
      thn (lenS (.slice (some ⟨b, o, none⟩) (n - 1) c)) fun v8 => thn (slS W h1 (.slice (some ⟨b, o, none⟩) (n - 1) c) (some v8) (some (I n)) none) fun v9 => thn (clearV z h1 v9) fun r10 => k (.slice (some ⟨b, o, none⟩) (n - 1) c) r10.2 := by
    intro h1 hs3
    refine r_lenS ?_
    have hlast : ¬ c = n - 1 := by omega
    refine ⟨.slice (some ⟨b, o + (n - 1) * W, none⟩) (n - (n - 1)) (c - (n - 1)), ?_, ?_⟩
    · have b7' : bnd (some (I n)) (n - 1) c = some n := b7
      simp only [slS, b1, b7', b6, Option.isNone_some, Bool.false_and, Option.isSome_none, Bool.false_eq_true, if_false, hlast, add_none]
      rw [if_pos (by omega)]
    have h1n : n - (n - 1) = 1 := by omega
    rw [h1n]
    have hlen : (cs.take (i * W) ++ cs.drop ((i + 1) * W)).length = (n - 1) * W := by
      rw [List.length_append, List.length_take, List.length_drop]; omega
    have hz1 : zerosA z 1 = z := by simp [zerosA]
    have hall : (cs.take (i * W) ++ cs.drop ((i + 1) * W)).all cellB = true := by
      rw [List.all_append, Bool.and_eq_true]
      exact ⟨List.all_eq_true.2 fun v hv => List.all_eq_true.1 hc v (List.mem_of_mem_take hv), List.all_eq_true.2 fun v hv => List.all_eq_true.1 hc v (List.mem_of_mem_drop hv)⟩
    obtain ⟨h2, hst, hs4⟩ := hs3.write (j := (n - 1) * W) (vs := z) (by rw [List.length_append, hlen, List.length_drop]; omega) hzc (by rw [List.length_append, hlen, List.length_drop]; omega)
    refine ⟨(.tuple #[], h2), ?_, ?_⟩
    · simp only [clearV, Nat.one_ne_zero, if_false, hz1, hst, Option.map_some]
    refine hk h2 ?_
    have hsp : splice (cs.take (i * W) ++ cs.drop ((i + 1) * W) ++ cs.drop ((n - 1) * W)) ((n - 1) * W) z = cs.take (i * W) ++ cs.drop ((i + 1) * W) ++ z := splice_last hlen (by rw [List.length_drop]; omega)
    rw [hsp] at hs4
    refine slc_shrink (n := n) (zs := z) (by omega) (by omega) hlen (close h2 _ _ ?_ ?_ hs4)
    · rw [List.length_append, hlen]; omega
    · rw [List.all_append, hall, hzc]; rfl
  by_cases hlst : i + 1 = n
  · -- the last one
    have hd0 : cs.drop ((i + 1) * W) = [] := List.drop_eq_nil_of_le (by rw [hlst]; omega)
    have key : ∀ v4 : Value, lenOfV v4 = some 0 → srcCells h W 0 v4 = some [] → thn (appV W bytes e h (.slice (some ⟨b, o, none⟩) i c) v4) fun r5 => thn (lenS r5.1) fun v8 => thn (slS W r5.2 r5.1 (some v8) (some (I n)) none) fun v9 => thn (clearV z r5.2 v9) fun r10 => k r5.1 r10.2 := by
      intro v4 h1 h2
      refine ⟨(.slice (some ⟨b, o, none⟩) i c, h), ?_, ?_⟩
      · simp only [appV, h1, h2, List.all_nil, Bool.not_true, List.length_nil, Nat.zero_mul, bne_self_eq_false, Bool.or_self, Bool.false_eq_true, if_false, Nat.add_zero]
        rw [if_pos (by omega), if_pos trivial]
      · have hin : i = n - 1 := by omega
        have := fin h (by
          rw [hd0, List.append_nil, hin, take_take_drop]; exact hs2)
        rw [hin]; exact this
    by_cases hci : c = i + 1
    · obtain ⟨hb, c', e', x', hg, hle, hall⟩ := hs2.cells hcl
      have hex : exactAt h b = some x' := by simp only [exactAt, hg]
      cases x' with
      | true =>
        refine ⟨empty0, ?_, key _ rfl rfl⟩
        simp only [slS, b1, b4, b5, Option.isNone_none, Option.isSome_none, Bool.and_false, Bool.false_eq_true, if_false, add_none, hex]
        rw [if_pos hcap, if_pos hci]
      | false =>
        refine ⟨dangling ⟨b, o + (i + 1) * W, none⟩, ?_, key _ rfl rfl⟩
        simp only [slS, b1, b4, b5, Option.isNone_none, Option.isSome_none, Bool.and_false, Bool.false_eq_true, if_false, add_none, hex]
        rw [if_pos hcap, if_pos hci]
    · refine ⟨.slice (some ⟨b, o + (i + 1) * W, none⟩) (n - (i + 1)) (c - (i + 1)), ?_, ?_⟩
      · simp only [slS, b1, b4, b5, Option.isNone_none, Option.isSome_none, Bool.and_false, Bool.false_eq_true, if_false, add_none, hci]
        rw [if_pos hcap]
      · have : n - (i + 1) = 0 := by omega
        rw [this]
        exact key _ rfl (by simp [srcCells])
  · have hci : ¬ c = i + 1 := by omega
    refine ⟨.slice (some ⟨b, o + (i + 1) * W, none⟩) (n - (i + 1)) (c - (i + 1)), ?_, ?_⟩
    · simp only [slS, b1, b4, b5, Option.isNone_none, Option.isSome_none, Bool.and_false, Bool.false_eq_true, if_false, add_none, hci]
      rw [if_pos hcap]
    have hn1 : ¬ n - (i + 1) = 0 := by omega
    have hld : loadCellsAt h ⟨b, o + (i + 1) * W, none⟩ ((n - (i + 1)) * W) = some (cs.drop ((i + 1) * W)) := by
      rw [seg_load hs2 hcl (by omega), List.take_of_length_le (by rw [List.length_drop]; omega)]
    have hdl : (cs.drop ((i + 1) * W)).length = (n - (i + 1)) * W := by rw [List.length_drop]; omega
    have hdc : (cs.drop ((i + 1) * W)).all cellB = true := List.all_eq_true.2 fun v hv => List.all_eq_true.1 hc v (List.mem_of_mem_drop hv)
    obtain ⟨h1, hst, hs3⟩ := hs2.write (j := i * W) (vs := cs.drop ((i + 1) * W)) (by omega) hdc hcl
    have hsum : i + (n - (i + 1)) = n - 1 := by omega
    refine ⟨(.slice (some ⟨b, o, none⟩) (n - 1) c, h1), ?_, ?_⟩
    · simp only [appV, lenOfV, srcCells, if_neg hn1, Nat.le_refl, if_true, hld, hdc, hdl, Bool.not_true, bne_self_eq_false, Bool.or_self, Bool.false_eq_true, if_false, add_none, hst, Option.map_some, Option.isSome_none, hsum]
      rw [if_pos (by omega)]
    refine fin h1 ?_
    have hsp : splice cs (i * W) (cs.drop ((i + 1) * W)) = cs.take (i * W) ++ cs.drop ((i + 1) * W) ++ cs.drop ((n - 1) * W) := by
      unfold splice
      congr 2
      rw [hdl]; omega
    rw [← hsp]; exact hs3
end Go.Ab
end
section
namespace Go.Ab
open Go
variable {P : Program}
/-- integers (of a kind) and bools of a type -/
def catT (f : TypeId → Option (List (Option IntKind))) : List Field → Nat → Option (List (Option IntKind))
  | [], _ => some []
  | x :: l, o => if x.offset = o then match f x.type with
    | some a => (catT f l (o + a.length)).map fun b => a ++ b
    | none => none
    else none
def flatT (P : Program) : Nat → TypeId → Option (List (Option IntKind))
  | 0, _ => none
  | n + 1, t => match P.underlying t with
    | some (.int k) => some [some k]
    | some .bool => some [none]
    | some (.array m e) => match flatT P n e with
      | some l => if P.cellsOf e = l.length ∧ P.cellsOf t = m * l.length then some (List.replicate m l).flatten else none
      | none => none
    | some (.struct fs) => if fs.toList.all (fun x => (flatT P n x.type).any fun l => l.length == P.cellsOf x.type) then
        (catT (flatT P n) fs.toList 0).bind fun l => if P.cellsOf t = l.length then some l else none else none
    | _ => none
def kindV : Option IntKind → Value → Prop
  | some k, v => ∃ n, v = .int k n ∧ (Lit.int k n).wf = true
  | none, v => ∃ b, v = .bool b
def Flat : List (Option IntKind) → List Value → Prop
  | [], [] => True
  | k :: ks, v :: vs => kindV k v ∧ Flat ks vs
  | _, _ => False
theorem Flat.len : ∀ {ks : List (Option IntKind)} {vs : List Value}, Flat ks vs → vs.length = ks.length
  | [], [], _ => rfl
  | _ :: _, _ :: _, h => by simp [Flat.len h.2]
theorem Flat.append : ∀ {ks js : List (Option IntKind)} {vs ws : List Value}, Flat ks vs → Flat js ws → Flat (ks ++ js) (vs ++ ws)
  | [], _, [], _, _, h => h
  | _ :: _, _, _ :: _, _, h, h' => ⟨h.1, Flat.append h.2 h'⟩
theorem flat_rep {l : List (Option IntKind)} : ∀ (m : Nat) (cs : List Value), cs.length = m * l.length → (∀ i, i < m → Flat l ((cs.drop (i * l.length)).take l.length)) → Flat (List.replicate m l).flatten cs := by
  intro m
  induction m with
  | zero => intro cs hl _; have : cs = [] := List.eq_nil_of_length_eq_zero (by omega); subst this; trivial
  | succ m ih =>
    intro cs hl h
    rw [List.replicate_succ, List.flatten_cons, ← List.take_append_drop l.length cs]
    refine Flat.append (by simpa using h 0 (by omega)) (ih _ (by rw [List.length_drop, hl, Nat.succ_mul]; omega) fun i hi => ?_)
    have := h (i + 1) (by omega)
    rw [List.drop_drop]
    rwa [Nat.succ_mul, Nat.add_comm] at this
theorem flat_cat {f : TypeId → Option (List (Option IntKind))} {cs : List Value} : ∀ (l : List Field) (o : Nat) (ks : List (Option IntKind)), catT f l o = some ks → (∀ x ∈ l, ∀ a, f x.type = some a → Flat a ((cs.drop x.offset).take a.length)) → Flat ks ((cs.drop o).take ks.length) := by
  intro l
  induction l with
  | nil => intro o ks h _; simp [catT] at h; subst h; simp [Flat]
  | cons x l ih =>
    intro o ks h hall
    unfold catT at h
    split at h
    · rename_i ho
      cases hf : f x.type with
      | none => rw [hf] at h; cases h
      | some a =>
        rw [hf] at h
        simp only [Option.map_eq_some_iff] at h
        obtain ⟨b, hb, rfl⟩ := h
        have h1 := hall x List.mem_cons_self a hf
        have h2 := ih _ b hb (fun y hy => hall y (List.mem_cons_of_mem _ hy))
        rw [ho] at h1
        rw [List.length_append, List.take_add, List.drop_drop]
        exact Flat.append h1 h2
    · cases h
variable {H : Type} {enc : TypeId × Value → H} {w : World} {base : Nat} {spare : Nat → Bool} {held : Bool}
theorem trod_flat : ∀ (n : Nat) {t : TypeId} {ks : List (Option IntKind)} {cs : List Value} {x : DataW H × List MemPlace} {fuel : Nat}, flatT P n t = some ks → DataW.trod enc P w base spare held fuel t cs = some x → Flat ks cs := by
  intro n
  induction n with
  | zero => intro t ks cs x fuel h; cases h
  | succ n ih =>
    intro t ks cs x fuel h ht
    unfold flatT at h
    split at h
    · rename_i k hu
      cases h
      obtain ⟨m, rfl, _, hw⟩ := DataW.trod_int hu ht
      exact ⟨⟨m, rfl, hw⟩, trivial⟩
    · rename_i hu
      cases h
      obtain ⟨m, rfl, _⟩ := DataW.trod_bool hu ht
      exact ⟨⟨m, rfl⟩, trivial⟩
    · rename_i m e hu
      cases hf : flatT P n e with
      | none => rw [hf] at h; cases h
      | some l =>
        rw [hf] at h
        simp only at h
        split at h
        · rename_i hc
          cases h
          obtain ⟨xs, _, _, _, hl, hxl, hx⟩ := DataW.trod_array hu ht
          refine flat_rep m cs (by rw [hl]; exact hc.2) fun i hi => ?_
          have h1 := hx i hi
          rw [List.getElem?_eq_getElem (by omega), hc.1] at h1
          exact ih hf h1
        · cases h
    · rename_i fs hu
      split at h
      · rename_i hall
        simp only [Option.bind_eq_some_iff] at h
        obtain ⟨l, hl, h⟩ := h
        split at h
        · rename_i hc
          cases h
          obtain ⟨xs, _, _, _, hcs, hxl, hx⟩ := DataW.trod_struct hu ht
          have := flat_cat (cs := cs) fs.toList 0 ks hl (fun y hy a ha => by
            obtain ⟨i, hi, rfl⟩ := List.getElem_of_mem hy
            have h1 := hx i fs.toList[i] (by simp at hi; simp [hi])
            have hal := List.all_eq_true.1 hall _ hy
            rw [ha] at hal
            simp at hal
            simp at hi
            rw [List.getElem?_eq_getElem (by omega)] at h1
            have := ih ha h1
            simp only [Array.getElem_toList] at this ⊢
            rw [← hal] at this
            exact this)
          rw [List.drop_zero, List.take_of_length_le (by rw [hcs, hc]; exact Nat.le_refl _)] at this
          exact this
        · cases h
      · cases h
    · cases h
end Go.Ab
end
section
namespace Go.Ab
open Go Go.RowKit
variable {P : Program}
/-- integers and bools alone are looked at -/
def san : Value → Value
  | .int k n => .int k n
  | .bool b => .bool b
  | _ => top
theorem san_rel {ρ : Rho} : ∀ l : List Value, LRel ρ (l.map san) l
  | [] => rfl
  | v :: l => by
    refine LRel.cons ?_ (san_rel l)
    cases v <;> simp [san, top, VRel]
theorem san_flat : ∀ {ks : List (Option IntKind)} {l : List Value}, Flat ks l → l.map san = l
  | [], [], _ => rfl
  | none :: ks, v :: l, h => by
    obtain ⟨⟨b, rfl⟩, h2⟩ := h
    simp [san, san_flat h2]
  | some k :: ks, v :: l, h => by
    obtain ⟨⟨b, rfl, _⟩, h2⟩ := h
    simp [san, san_flat h2]
/-- a slice whose parts are flat -/
def FlatRow (ks : List (Option IntKind)) (w : World) (a : Option Addr) (len cap : Nat) : Prop :=
  (a = none ∧ len = 0 ∧ cap = 0) ∨ (∃ x, a = some x ∧ len = 0) ∨
  ∃ x cc e fz, a = some x ∧ 0 < len ∧ x.spot = none ∧ len ≤ cap ∧ w.heap[x.block]? = some (.cells cc e fz) ∧ x.off + len * ks.length ≤ cc.size ∧
    ∀ i, i < len → Flat ks ((cc.toList.drop (x.off + i * ks.length)).take ks.length)
theorem add_at {x : Addr} {i : Nat} (h : x.spot = none) : x.add i = ⟨x.block, x.off + i, none⟩ := by
  unfold Addr.add
  split
  · rename_i hi; subst hi; cases x; simp at h; subst h; rfl
  · rfl
variable {H : Type} {enc : TypeId × Value → H} {w : World} {base : Nat} {spare : Nat → Bool} {held : Bool}
theorem open_flat {t e : TypeId} {n fuel : Nat} {ks : List (Option IntKind)} {cs : List Value} {x : DataW H × List MemPlace} (ht : P.underlying t = some (.slice e)) (he : flatT P n e = some ks) (hc : P.cellsOf e = ks.length) (h0 : 0 < ks.length)
    (h : DataW.trod enc P w base spare held fuel t cs = some x) : ∃ a len cap, cs = [.slice a len cap] ∧ FlatRow ks w a len cap := by
  rcases DataW.trod_slice ht h with ⟨rfl, _⟩ | ⟨a, len, cap, elems, rest, m, _, rfl, _, hb, hl, hm, hlen, hel, _, _⟩
  · exact ⟨none, 0, 0, rfl, .inl ⟨rfl, rfl, rfl⟩⟩
  refine ⟨some a, len, cap, rfl, ?_⟩
  rcases Nat.eq_zero_or_pos len with hz | hz
  · exact .inr (.inl ⟨a, rfl, hz⟩)
  refine .inr (.inr ?_)
  have each : ∀ i, i < len → ∃ c : List Value, Flat ks c ∧ c.length = ks.length ∧ ∀ j, j < ks.length → w.cell? ((a.add (i * ks.length)).add j) = c[j]? := by
    intro i hi
    have h1 := hel i hi
    rw [List.getElem?_eq_getElem (by omega), hc, Option.bind_eq_some_iff] at h1
    obtain ⟨c, hcs, hy⟩ := h1
    refine ⟨c, trod_flat n he hy, ?_, fun j hj => ?_⟩
    · unfold World.cells? at hcs
      split at hcs
      · have := mapM_some_length hcs; simpa using this
      · cases hcs
    · unfold World.cells? at hcs
      split at hcs
      · exact mapM_some_get hcs j j (by simp [hj])
      · cases hcs
  obtain ⟨c0, hf0, hl0, hc0⟩ := each 0 hz
  have h00 := hc0 0 h0
  rw [List.getElem?_eq_getElem (by omega)] at h00
  obtain ⟨cc, e', fz, hb, hs⟩ : ∃ cc e fz, w.heap[a.block]? = some (.cells cc e fz) ∧ a.spot = none := by
    have hx0 : (a.add (0 * ks.length)).add 0 = a := by rw [Nat.zero_mul]; rfl
    rw [hx0] at h00
    unfold World.cell? at h00
    split at h00
    · rename_i c e fz hb
      split at h00
      · cases h00
      · rename_i hs
        exact ⟨c, e, fz, hb, by simpa using hs⟩
    · cases h00
  have hcell : ∀ o, w.cell? ⟨a.block, o, none⟩ = cc[o]? := by
    intro o
    unfold World.cell?
    rw [hb]
    simp
  have hat : ∀ i, i < len → ∃ c : List Value, Flat ks c ∧ c.length = ks.length ∧ ∀ j, j < ks.length → cc[a.off + i * ks.length + j]? = c[j]? := by
    intro i hi
    obtain ⟨c, hf, hcl, hj⟩ := each i hi
    refine ⟨c, hf, hcl, fun j hjl => ?_⟩
    rw [← hj j hjl, add_at hs, add_at rfl]
    exact (hcell _).symm
  refine ⟨a, cc, e', fz, rfl, hz, hs, hl, hb, ?_, ?_⟩
  · obtain ⟨c, hf, hcl, hj⟩ := hat (len - 1) (by omega)
    have := hj (ks.length - 1) (by omega)
    rw [List.getElem?_eq_getElem (by omega)] at this
    have h2 := (Array.getElem?_eq_some_iff.1 this).1
    have : len * ks.length = (len - 1) * ks.length + ks.length := by
      conv => lhs; rw [show len = (len - 1) + 1 by omega, Nat.succ_mul]
    omega
  · intro i hi
    obtain ⟨c, hf, hcl, hj⟩ := hat i hi
    have : (cc.toList.drop (a.off + i * ks.length)).take ks.length = c := by
      apply List.ext_getElem?
      intro j
      rw [List.getElem?_take]
      split
      · rename_i hjl
        rw [List.getElem?_drop, Array.getElem?_toList, hj j hjl]
      · rename_i hjl
        rw [List.getElem?_eq_none (by omega)]
    rw [this]; exact hf
/-- a slice that is only read -/
def OldS (G : Bg) (W : Nat) (v : Value) (n : Nat) (at' : Nat → List Value) : Prop := ∃ a c, v = .slice a n c ∧ ∀ i, i < n → ∃ b o cells, a = some ⟨b, o, none⟩ ∧ Ob G b cells ∧ (cells.drop (o + i * W)).take W = at' i ∧ o + i * W ≤ cells.length
/-- an old block: what is read of it, and the world's block -/
abbrev OB := Option Blk × Option (Nat × (Nat × Nat))
def OBok (P : Program) (w : World) (r : OB) : Prop :=
  (∀ o, r.1 = some o → ∀ b s, r.2 = some (b, s) → ∃ o', w.heap[b]? = some o' ∧ ∀ ρ, BRel P ρ s o o') ∧ (∀ b s, r.2 = some (b, s) → b < w.heap.size)
theorem row_old (P : Program) {ks : List (Option IntKind)} {a : Option Addr} {len cap : Nat} (h : FlatRow ks w a len cap) : ∃ (r : OB) (t : Nat → Value), OBok P w r ∧
    (∀ ρ k, ρ k = r.2 → VRel ρ (t k) (.slice a len cap)) ∧ ∃ at' : Nat → List Value, (∀ i, i < len → Flat ks (at' i)) ∧ ∀ (G : Bg) k, k < G.base → G.old k = r.1 → OldS G ks.length (t k) len at' := by
  rcases h with ⟨rfl, rfl, rfl⟩ | ⟨x, rfl, rfl⟩ | ⟨x, cc, e, fz, rfl, h0, hs, hl, hb, hsz, hf⟩
  · refine ⟨(none, none), fun _ => .slice none 0 0, ⟨fun o h => by (cases h), fun b s h => by cases h⟩, fun ρ k _ => by simp only [VRel], fun _ => [], fun i hi => by omega, fun G k _ _ => ⟨none, 0, rfl, fun i hi => by omega⟩⟩
  · refine ⟨(none, none), fun _ => .slice (some ⟨0, 0, some 0⟩) 0 0, ⟨fun o h => by (cases h), fun b s h => by cases h⟩, fun ρ k _ => ?_, fun _ => [], fun i hi => by omega, fun G k _ _ => ⟨some ⟨0, 0, some 0⟩, 0, rfl, fun i hi => by omega⟩⟩
    simp only [VRel]
    exact ⟨trivial, trivial, x, cap, fun h => by omega, fun h => by omega, rfl⟩
  · refine ⟨(some (.cells (cc.toList.map san) e fz false), some (x.block, (0, 0))), fun k => .slice (some ⟨k, x.off, none⟩) len cap, ⟨fun o h b s hr => ?_, fun b s hr => ?_⟩, fun ρ k hr => ?_, fun i => (cc.toList.drop (x.off + i * ks.length)).take ks.length, hf, fun G k hk hg => ?_⟩
    · cases h; cases hr
      refine ⟨_, hb, fun ρ => ⟨cc, rfl, ?_, by simp, fun h => by cases h⟩⟩
      rw [List.length_map, List.drop_zero, List.take_of_length_le (by simp)]
      exact san_rel _
    · cases hr
      exact (Array.getElem?_eq_some_iff.1 hb).1
    · simp only [VRel]
      exact ⟨x.block, (0, 0), cap, hr, Nat.le_refl _, by simp, by cases x; simp at hs; subst hs; rfl⟩
    · refine ⟨_, _, rfl, fun i hi => ⟨k, x.off, _, rfl, ⟨hk, e, fz, false, hg⟩, ?_, ?_⟩⟩
      · rw [← List.map_drop, ← List.map_take]
        exact san_flat (hf i hi)
      · rw [List.length_map]
        have : i * ks.length ≤ len * ks.length := Nat.mul_le_mul_right _ (by omega)
        simp; omega
/-- globals first, then blocks that came with the arguments -/
def oldOf (g : Nat) (gl : Nat → Option Blk) (rs : List OB) : Nat → Option Blk := fun i => if i < g then gl i else (rs[i - g]?).bind (·.1)
def rhoOf (g : Nat) (rs : List OB) : Rho := fun i => if i < g then some (i, (0, 0)) else (rs[i - g]?).bind (·.2)
def GlOk (P : Program) (g : Nat) (gl : Nat → Option Blk) (w : World) : Prop := ∀ i o, i < g → gl i = some o → ∃ o', w.heap[i]? = some o' ∧ ∀ ρ, BRel P ρ (0, 0) o o'
theorem reads_of {g : Nat} {gl : Nat → Option Blk} {rs : List OB} (hg : P.globals.size ≤ g) (hsz : g ≤ w.heap.size) (hgl : GlOk P g gl w) (hr : ∀ r ∈ rs, OBok P w r) : Reads P (g + rs.length) (oldOf g gl rs) (rhoOf g rs) w where
  blk := fun i o hi ho b s hb => by
    unfold oldOf at ho; unfold rhoOf at hb
    split at ho
    · rename_i h
      rw [if_pos h] at hb
      cases hb
      obtain ⟨o', h1, h2⟩ := hgl i o h ho
      exact ⟨o', h1, h2 _⟩
    · rename_i h
      rw [if_neg h] at hb
      rw [List.getElem?_eq_getElem (by omega)] at ho hb
      obtain ⟨o', h1, h2⟩ := (hr _ (List.getElem_mem (by omega))).1 o ho b s hb
      exact ⟨o', h1, h2 _⟩
  low := fun i b s hi hb => by
    unfold rhoOf at hb
    split at hb
    · cases hb; omega
    · rw [List.getElem?_eq_getElem (by omega)] at hb
      exact (hr _ (List.getElem_mem (by omega))).2 b s hb
  none := fun i hi => by unfold rhoOf; rw [if_neg (by omega), List.getElem?_eq_none (by omega)]; rfl
  glob := fun i hi => by unfold rhoOf; rw [if_pos (by omega)]
theorem oldOf_at {g i : Nat} {gl : Nat → Option Blk} {rs : List OB} {r : OB} (h : rs[i]? = some r) : oldOf g gl rs (g + i) = r.1 := by unfold oldOf; rw [if_neg (by omega), show g + i - g = i by omega, h]; rfl
theorem rhoOf_at {g i : Nat} {rs : List OB} {r : OB} (h : rs[i]? = some r) : rhoOf g rs (g + i) = r.2 := by unfold rhoOf; rw [if_neg (by omega), show g + i - g = i by omega, h]; rfl
theorem oldOf_gl {g i : Nat} {gl : Nat → Option Blk} {rs : List OB} (h : i < g) : oldOf g gl rs i = gl i := by unfold oldOf; rw [if_pos h]
theorem hs_start {base : Nat} {old : Nat → Option Blk} : Hs ⟨base, old⟩ (Go.Ab.start base old) [] where
  base := rfl
  old := rfl
  wf := Nat.le_refl _
  fr := fun i hi => by rw [start_get, if_neg (Nat.not_lt.2 (show base ≤ i from hi))]
  res := ⟨Res.emp, rfl, ⟨fun b o v h => by simp [Res.emp] at h, fun b h => by simp [Res.emp] at h, fun b e x n h => by simp [Res.emp] at h, fun b o h => by simp [Res.emp] at h⟩⟩
end Go.Ab
end
section
namespace Go.Ab
variable {P : Program} {K : FuncId → List Value → Option Ans} {G : Bg} {h : AH} {L L' M : List HP}
def rdS (G : Bg) (W : Nat) (e : TypeId) (v : Value) (l : List (List Value)) : HP := fun r =>
  (∀ x ∈ l, x.length = W) ∧ ((OldS G W v l.length (fun i => l.getD i []) ∧ r = Res.emp) ∨ ∃ a c, v = .slice a l.length c ∧ slc W e a c (l.length, l.flatten) r)
variable {W : Nat} {e : TypeId} {v : Value} {l : List (List Value)}
theorem Hs.headP {A : HP} {p : Prop} (hs : Hs G h (A :: L)) (k : ∀ r, A r → p) : p := by
  obtain ⟨r, r2, h1, _⟩ := hs.fst
  exact k r h1
theorem rd_slice (hs : Hs G h (rdS G W e v l :: L)) : ∃ a c, v = .slice a l.length c := hs.headP fun r hr => by
  obtain ⟨_, ⟨⟨a, c, h1, _⟩, _⟩ | ⟨a, c, h1, _⟩⟩ := hr
  · exact ⟨a, c, h1⟩
  · exact ⟨a, c, h1⟩
theorem rd_lens (hs : Hs G h (rdS G W e v l :: L)) : ∀ x ∈ l, x.length = W := hs.headP fun _ hr => hr.1
theorem rd_old (hl : ∀ x ∈ l, x.length = W) (ho : OldS G W v l.length (fun i => l.getD i [])) (hs : Hs G h L) : Hs G h (rdS G W e v l :: L) :=
  Hs.join (A := []) hs fun r hr => ⟨hl, .inl ⟨ho, hr⟩⟩
theorem rd_own {a : Option Addr} {c n : Nat} {cs : List Value} (hl : ∀ x ∈ l, x.length = W) (hn : n = l.length) (hc : cs = l.flatten) (hs : Hs G h (slc W e a c (n, cs) :: L)) : Hs G h (rdS G W e (.slice a n c) l :: L) := by
  subst hn; subst hc
  exact Hs.join (A := [_]) hs fun r hr => ⟨hl, .inr ⟨a, c, rfl, star_one.1 hr⟩⟩
theorem flatten_at {W : Nat} : ∀ {l : List (List Value)} {i : Nat} {x : List Value}, (∀ x ∈ l, x.length = W) → l[i]? = some x → (l.flatten.drop (i * W)).take W = x ∧ i * W + W ≤ l.flatten.length
  | [], i, x, _, h => by simp at h
  | y :: l, 0, x, hl, h => by
    simp only [List.getElem?_cons_zero, Option.some.injEq] at h
    subst h
    have := hl y List.mem_cons_self
    simp [← this]
  | y :: l, i + 1, x, hl, h => by
    have hy := hl y List.mem_cons_self
    obtain ⟨h1, h2⟩ := flatten_at (fun z hz => hl z (List.mem_cons_of_mem _ hz)) (by simpa using h)
    rw [List.flatten_cons, show (i + 1) * W = y.length + i * W by rw [hy, Nat.succ_mul]; omega, List.drop_append, List.drop_of_length_le (by omega), Nat.add_sub_cancel_left, List.nil_append, List.length_append]
    exact ⟨h1, by omega⟩
/-- an element is read -/
theorem r_rd {i : Nat} {x : List Value} {k : Value → Prop} (hs : Hs G h (rdS G W e v l :: L)) (hW : 0 < W) (hx : l[i]? = some x) (hk : k (.agg ⟨x⟩)) : thn (idxS W v (I i)) fun p => thn (ldN h W p) k := by
  obtain ⟨hi, hxi⟩ := List.getElem?_eq_some_iff.1 hx
  have hxl : x.length = W := rd_lens hs x (hxi ▸ List.getElem_mem hi)
  obtain ⟨r, hst, hin⟩ := hs.res
  obtain ⟨r1, r2, hr, h2, hd, rfl⟩ := hst
  obtain ⟨hl, hr⟩ := hr
  rcases hr with ⟨ho, rfl⟩ | ⟨a, c, rfl, hr⟩
  · obtain ⟨a, c, rfl, hall⟩ := ho
    obtain ⟨b, o, cells, rfl, hob, hc, hle⟩ := hall i hi
    refine r_idxN hi ?_
    rw [show pt b (o + i * W) 0 = pt b o (i * W) by simp [pt]]
    refine r_ldNo hs hob (l := x) ?_ hxl hle hk
    rw [hc]
    simp [hx]
  · have hs' : Hs G h (slc W e a c (l.length, l.flatten) :: L) := ⟨hs.base, hs.old, hs.wf, hs.fr, ⟨_, ⟨r1, r2, hr, h2, hd, rfl⟩, hin⟩⟩
    obtain ⟨b, o, rfl, hs'⟩ := hs'.holeOpen (by omega)
    refine r_idxN hi ?_
    rw [show pt b (o + i * W) 0 = pt b o (i * W) by simp [pt]]
    exact r_ldN hs' hW (flatten_at hl hx).1 hxl hk
/-- a cell of an element is read -/
theorem r_rd1 {i j : Nat} {x : List Value} {u : Value} {k : Value → Prop} (hs : Hs G h (rdS G W e v l :: L)) (hx : l[i]? = some x) (hu : x[j]? = some u) (hk : k u) : thn (idxS W v (I i)) fun p => thn (padd j p) fun q => thn (ld1 h q) k := by
  obtain ⟨hi, hxi⟩ := List.getElem?_eq_some_iff.1 hx
  have hxl : x.length = W := rd_lens hs x (hxi ▸ List.getElem_mem hi)
  have hj : j < W := by rw [← hxl]; exact (List.getElem?_eq_some_iff.1 hu).1
  obtain ⟨r, hst, hin⟩ := hs.res
  obtain ⟨r1, r2, hr, h2, hd, rfl⟩ := hst
  obtain ⟨hl, hr⟩ := hr
  rcases hr with ⟨ho, rfl⟩ | ⟨a, c, rfl, hr⟩
  · obtain ⟨a, c, rfl, hall⟩ := ho
    obtain ⟨b, o, cells, rfl, hob, hc, hle⟩ := hall i hi
    refine r_idxN hi (r_padd ?_)
    refine r_ldo hs hob (o := o + i * W) (j := 0 + j) ?_ hk
    have h1 : (cells.drop (o + i * W)).take W = x := by rw [hc]; simp [hx]
    rw [← h1, List.getElem?_take_of_lt hj, List.getElem?_drop] at hu
    rw [Nat.zero_add]
    exact hu
  · have hs' : Hs G h (slc W e a c (l.length, l.flatten) :: L) := ⟨hs.base, hs.old, hs.wf, hs.fr, ⟨_, ⟨r1, r2, hr, h2, hd, rfl⟩, hin⟩⟩
    obtain ⟨b, o, rfl, hs'⟩ := hs'.holeOpen (by omega)
    refine r_idxN hi (r_padd ?_)
    rw [show pt b (o + i * W) (0 + j) = pt b o (i * W + j) by simp only [pt]; rw [Nat.zero_add, Nat.add_assoc]]
    refine r_ld hs' ?_ hk
    have h1 := (flatten_at hl hx).1
    rw [← h1, List.getElem?_take_of_lt hj, List.getElem?_drop] at hu
    exact hu
/-- a cell of a slice of one's own -/
theorem r_slc1 {n i c : Nat} {a : Option Addr} {cs : List Value} {u : Value} {k : Value → Prop} (hs : Hs G h L) [m : Has (slc 1 e a c) L (n, cs) L'] (hu : cs[i]? = some u) (hk : k u) : thn (idxS 1 (.slice a n c) (I i)) fun p => thn (ld1 h p) k := by
  have hs := m.of hs
  have hl := hs.slcLen
  simp only [Nat.mul_one] at hl
  have hi := (List.getElem?_eq_some_iff.1 hu).1
  obtain ⟨b, o, rfl, hs'⟩ := hs.holeOpen (by omega)
  refine r_idxN (by omega) ?_
  rw [show pt b (o + i * 1) 0 = pt b o i by simp [pt]]
  exact r_ld hs' hu hk
/-- a cell of a slice of one's own is written -/
theorem r_slcSet {n i c : Nat} {a : Option Addr} {cs : List Value} {v : Value} {k : AH → Prop} (hs : Hs G h L) [m : Has (slc 1 e a c) L (n, cs) L'] [hv : Cv v [v]] (hc : cellB v = true) (hi : i < n) (hk : ∀ h', Hs G h' (slc 1 e a c (n, cs.set i v) :: L') → k h') : thn (idxS 1 (.slice a n c) (I i)) fun p => thn (stV h 1 p v) k := by
  have hs := m.of hs
  have hl := hs.slcLen
  have hce := hs.slcCells
  simp only [Nat.mul_one] at hl
  obtain ⟨b, o, rfl, hs'⟩ := hs.holeOpen (by omega)
  refine r_idxN hi ?_
  rw [show pt b (o + i * 1) 0 = pt b o i by simp [pt]]
  refine r_sto hs' rfl (by simp; omega) (by simp [hc]) (by simp; omega) fun h' hs'' => ?_
  have e1 : setL cs i [v] = cs.set i v := by
    rw [← setL_splice cs i [v] (by simp; omega)]
    apply List.ext_getElem?
    intro j
    unfold splice
    rw [List.getElem?_set]
    simp only [List.length_singleton]
    by_cases hj : i = j
    · subst hj
      rw [if_pos rfl, if_pos (by omega), List.append_assoc, List.getElem?_append_right (by simp; omega)]
      simp [Nat.min_eq_left (show i ≤ cs.length by omega)]
    · rw [if_neg hj, List.append_assoc]
      by_cases hlt : j < i
      · rw [List.getElem?_append_left (by simp; omega), List.getElem?_take_of_lt hlt]
      · rw [List.getElem?_append_right (by simp; omega), List.getElem?_append_right (by simp; omega), List.getElem?_drop]
        congr 1
        simp
        omega
  rw [e1] at hs''
  have hx : (cs.set i v).all cellB = true := by
    rw [List.all_eq_true] at hce ⊢
    intro w hw
    rcases List.mem_or_eq_of_mem_set hw with hw | rfl
    · exact hce w hw
    · exact hc
  exact hk h' (Hs.holeClose hs'' (by simp; omega) hx)
/-- all of a slice of one's own -/
theorem r_slAll {W n c : Nat} {a : Option Addr} {cs : List Value} {k : Value → Prop} (hs : Hs G h L) [m : Has (slc W e a c) L (n, cs) L'] (h0 : 0 < n) (hk : k (.slice a n c)) : thn (slS W h (.slice a n c) none (some (I n)) none) k := by
  have hs := m.of hs
  have hx : n ≤ c ∧ ∃ b o, a = some ⟨b, o, none⟩ := hs.headP fun r hr => by
    obtain ⟨_, _, ⟨h1, _⟩ | ⟨h1, _⟩ | ⟨h1, b, pre, post, ex, ha, _⟩⟩ := hr
    · exact absurd h1 (by simp; omega)
    · exact absurd h1 (by simp; omega)
    · exact ⟨h1, b, pre.length, ha⟩
  obtain ⟨hc, b, o, rfl⟩ := hx
  refine ⟨.slice (some ⟨b, o, none⟩) n c, ?_, hk⟩
  have e1 : bnd (some (I n)) n c = some n := by unfold bnd; simp; omega
  unfold slS
  simp only [bnd, Option.isNone_some, Bool.false_and, Bool.false_eq_true, if_false]
  simp only [bnd] at e1
  rw [e1]
  simp only [Option.isSome_none, Bool.false_eq_true, if_false]
  rw [if_pos (by omega), if_neg (by omega)]
  simp [Addr.add]
theorem Hs.un1 {A : HP} (hs : Hs G h (sp [A] :: L)) : Hs G h (A :: L) := Hs.unpack hs
theorem Hs.pk1 {A : HP} (hs : Hs G h (A :: L)) : Hs G h (sp [A] :: L) := Hs.pack (A := [A]) hs
theorem Hs.un2 {A B : HP} (hs : Hs G h (sp [A, B] :: L)) : Hs G h (A :: B :: L) := Hs.unpack hs
theorem Hs.pk2 {A B : HP} (hs : Hs G h (A :: B :: L)) : Hs G h (sp [A, B] :: L) := Hs.pack (A := [A, B]) hs
theorem Hs.un3 {A B C : HP} (hs : Hs G h (sp [A, B, C] :: L)) : Hs G h (A :: B :: C :: L) := Hs.unpack hs
theorem Hs.pk3 {A B C : HP} (hs : Hs G h (A :: B :: C :: L)) : Hs G h (sp [A, B, C] :: L) := Hs.pack (A := [A, B, C]) hs
theorem Hs.un4 {A B C D : HP} (hs : Hs G h (sp [A, B, C, D] :: L)) : Hs G h (A :: B :: C :: D :: L) := Hs.unpack hs
theorem Hs.pk4 {A B C D : HP} (hs : Hs G h (A :: B :: C :: D :: L)) : Hs G h (sp [A, B, C, D] :: L) := Hs.pack (A := [A, B, C, D]) hs
theorem Hs.un5 {A B C D E : HP} (hs : Hs G h (sp [A, B, C, D, E] :: L)) : Hs G h (A :: B :: C :: D :: E :: L) := Hs.unpack hs
theorem Hs.pk5 {A B C D E : HP} (hs : Hs G h (A :: B :: C :: D :: E :: L)) : Hs G h (sp [A, B, C, D, E] :: L) := Hs.pack (A := [A, B, C, D, E]) hs
theorem Hs.un6 {A B C D E F : HP} (hs : Hs G h (sp [A, B, C, D, E, F] :: L)) : Hs G h (A :: B :: C :: D :: E :: F :: L) := Hs.unpack hs
theorem Hs.pk6 {A B C D E F : HP} (hs : Hs G h (A :: B :: C :: D :: E :: F :: L)) : Hs G h (sp [A, B, C, D, E, F] :: L) := Hs.pack (A := [A, B, C, D, E, F]) hs
theorem r_endd {f : FuncId} {p : List Nat} {n : Nat} {e : Nat → Value} {d l : Nat} {pd : Option Code} {k : Option Code × AH → Prop} (hs : Hs G h L) [m : HasLp l L ⟨P, f, p, n, e, d, .done, pd⟩ L'] (hk : ∀ h', Hs G h' L' → k (pd, h')) : thn (endV h l) k :=
  r_end (P := P) (f := f) (p := p) (n := n) (e := e) (d := d) (st := .done) (pd := pd) (k := fun a b => k (a, b)) (show Hs G h (lpT P f p n e d l (.done, pd) :: L') from m.of hs) (by decide) hk
/-- what is yielded, taken one by one: 'X' of those that came, 'Z' behind the one at which it is broken off -/
theorem Yds.fold {α : Type} {xs : List α} {f : α → List Value} {g : FuncId} {first captured : List Value} {A : HP} (hy : Yds P K G g first captured A (xs.map f)) {X : List α → HP} {Z : List α → α → HP} {y : Value} {Q : Value → AH → Prop}
    (hs : Hs G h (A :: X [] :: L))
    (step : ∀ done x h M, done ++ [x] <+: xs → Hs G h (X done :: M) → OkF P K y (f x) h fun v h' => (v = .bool true ∧ Hs G h' (X (done ++ [x]) :: M)) ∨ (v = .bool false ∧ Hs G h' (Z done x :: M)))
    (fin : ∀ v h', Hs G h' (A :: X xs :: L) → Q v h') (brk : ∀ done x v h', done ++ [x] <+: xs → Hs G h' (A :: Z done x :: L) → Q v h') : Cl P K g (first ++ [y] ++ captured) h Q := by
  refine hy (fun rest => exH fun done : List α => sp [puH (∃ ys, xs = done ++ ys ∧ rest = ys.map f), X done]) (exH fun dx : List α × α => sp [puH (dx.1 ++ [dx.2] <+: xs), Z dx.1 dx.2]) y L h Q ?_ ?_ ?_ ?_
  · refine Hs.at2 (Hs.exI ([] : List α) ?_)
    exact sp_pu ⟨xs, rfl, rfl⟩ (Hs.pack (A := [_]) hs.at2)
  · intro x rest h M hs
    obtain ⟨done, hs1⟩ := hs.exE
    obtain ⟨⟨ys, h1, h2⟩, hs2⟩ := sp_puE hs1
    clear hs hs1
    cases ys with
    | nil => cases h2
    | cons z ys =>
      simp only [List.map_cons, List.cons.injEq] at h2
      obtain ⟨e1, e2⟩ := h2
      subst e1; subst e2
      have hp : done ++ [z] <+: xs := ⟨ys, by rw [h1]; simp⟩
      refine (step done z h M hp hs2.unpack).mono fun v h' hv => hv.imp (fun e => ⟨e.1, ?_⟩) (fun e => ⟨e.1, ?_⟩)
      · exact Hs.exI (done ++ [z]) (sp_pu ⟨ys, by rw [h1]; simp, rfl⟩ (Hs.pack (A := [_]) e.2))
      · exact Hs.exI (done, z) (sp_pu hp (Hs.pack (A := [_]) e.2))
  · intro v h' hs
    obtain ⟨done, hs⟩ := hs.at2.exE
    obtain ⟨⟨ys, h1, h2⟩, hs⟩ := sp_puE hs
    cases ys with
    | cons z ys => cases h2
    | nil =>
      rw [List.append_nil] at h1
      subst h1
      exact fin v h' (Hs.at2 hs.unpack)
  · intro v h' hs
    obtain ⟨⟨done, x⟩, hs⟩ := hs.at2.exE
    obtain ⟨hp, hs⟩ := sp_puE hs
    exact brk done x v h' hp (Hs.at2 hs.unpack)
end Go.Ab
end
section
namespace Go.Ab
variable {P : Program} {K : FuncId → List Value → Option Ans} {G : Bg} {h : AH} {L L' M : List HP} {W : Nat} {e : TypeId}
/-- a cell of a part of a slice of one's own -/
theorem r_slcJ {n i j c : Nat} {a : Option Addr} {cs : List Value} {u : Value} {k : Value → Prop} (hs : Hs G h L) [m : Has (slc W e a c) L (n, cs) L'] (hi : i < n) (hu : cs[i * W + j]? = some u) (hk : k u) : thn (idxS W (.slice a n c) (I i)) fun p => thn (padd j p) fun q => thn (ld1 h q) k := by
  have hs := m.of hs
  obtain ⟨b, o, rfl, hs'⟩ := hs.holeOpen (by omega)
  refine r_idxN hi (r_padd ?_)
  rw [show pt b (o + i * W) (0 + j) = pt b o (i * W + j) by simp only [pt]; rw [Nat.zero_add, Nat.add_assoc]]
  exact r_ld hs' hu hk
/-- a part of a slice of one's own -/
theorem r_slcN {n i c : Nat} {a : Option Addr} {cs x : List Value} {k : Value → Prop} (hs : Hs G h L) [m : Has (slc W e a c) L (n, cs) L'] (hW : 0 < W) (hi : i < n) (hx : (cs.drop (i * W)).take W = x) (hl : x.length = W) (hk : k (.agg ⟨x⟩)) : thn (idxS W (.slice a n c) (I i)) fun p => thn (ldN h W p) k := by
  have hs := m.of hs
  obtain ⟨b, o, rfl, hs'⟩ := hs.holeOpen (by omega)
  refine r_idxN hi ?_
  rw [show pt b (o + i * W) 0 = pt b o (i * W) by simp [pt]]
  exact r_ldN hs' hW hx hl hk
/-- the one cell of an element is read -/
theorem r_rdc {v : Value} {l : List (List Value)} {i : Nat} {x : List Value} {u : Value} {k : Value → Prop} (hs : Hs G h (rdS G 1 e v l :: L)) (hx : l[i]? = some x) (hu : x[0]? = some u) (hk : k u) : thn (idxS 1 v (I i)) fun p => thn (ld1 h p) k := by
  obtain ⟨hi, hxi⟩ := List.getElem?_eq_some_iff.1 hx
  have hxl : x.length = 1 := rd_lens hs x (hxi ▸ List.getElem_mem hi)
  obtain ⟨r, hst, hin⟩ := hs.res
  obtain ⟨r1, r2, hr, h2, hd, rfl⟩ := hst
  obtain ⟨hl, hr⟩ := hr
  rcases hr with ⟨ho, rfl⟩ | ⟨a, c, rfl, hr⟩
  · obtain ⟨a, c, rfl, hall⟩ := ho
    obtain ⟨b, o, cells, rfl, hob, hc, hle⟩ := hall i hi
    refine r_idxN hi ?_
    refine r_ldo hs hob (o := o + i * 1) (j := 0) ?_ hk
    have h1 : (cells.drop (o + i * 1)).take 1 = x := by rw [hc]; simp [hx]
    rw [← h1, List.getElem?_take_of_lt (by omega), List.getElem?_drop] at hu
    exact hu
  · have hs' : Hs G h (slc 1 e a c (l.length, l.flatten) :: L) := ⟨hs.base, hs.old, hs.wf, hs.fr, ⟨_, ⟨r1, r2, hr, h2, hd, rfl⟩, hin⟩⟩
    obtain ⟨b, o, rfl, hs'⟩ := hs'.holeOpen (by omega)
    refine r_idxN hi ?_
    rw [show pt b (o + i * 1) 0 = pt b o i by simp [pt]]
    refine r_ld hs' ?_ hk
    have h1 := (flatten_at hl hx).1
    rw [← h1, List.getElem?_take_of_lt (by omega), List.getElem?_drop] at hu
    simpa using hu
theorem rd_src {v : Value} {l : List (List Value)} (hs : Hs G h (rdS G W e v l :: L)) (hW : 0 < W) : srcCells h W l.length v = some l.flatten := by
  have hls := rd_lens hs
  obtain ⟨r, hst, hin⟩ := hs.res
  obtain ⟨r1, r2, hr, h2, hd, rfl⟩ := hst
  obtain ⟨hl, hr⟩ := hr
  rcases hr with ⟨ho, rfl⟩ | ⟨a, c, rfl, hr⟩
  · obtain ⟨a, c, rfl, hall⟩ := ho
    cases l with
    | nil => cases a <;> simp [srcCells]
    | cons x l =>
      obtain ⟨b, o, cells, rfl, hob, hc0, hle0⟩ := hall 0 (by simp)
      have hg := hob.get
      obtain ⟨e', fz, x', hg⟩ := hg
      have hgh : h.get b = some (.cells cells e' fz x') := by rw [hs.oldGet hob.lt]; exact hg
      have hcells : ∀ i, i < (x :: l).length → (cells.drop (o + i * W)).take W = (x :: l).getD i [] ∧ o + i * W ≤ cells.length := by
        intro i hi
        obtain ⟨b', o', cells', he, hob', hc, hle⟩ := hall i hi
        cases he
        obtain ⟨_, _, _, hg'⟩ := hob'.get
        rw [hg] at hg'
        cases hg'
        exact ⟨hc, hle⟩
      have key : ∀ (l : List (List Value)) (o : Nat), (∀ x ∈ l, x.length = W) → (∀ i, i < l.length → (cells.drop (o + i * W)).take W = l.getD i [] ∧ o + i * W ≤ cells.length) → o ≤ cells.length → o + l.length * W ≤ cells.length ∧ (cells.drop o).take (l.length * W) = l.flatten := by
        intro l
        induction l with
        | nil => intro o _ _ ho; exact ⟨by simpa using ho, by simp⟩
        | cons y l ih =>
          intro o hy hi ho
          have h0 := hi 0 (by simp)
          have hyl := hy y List.mem_cons_self
          simp only [Nat.zero_mul, Nat.add_zero, List.getD_cons_zero] at h0
          have hlen : o + W ≤ cells.length := by
            have := congrArg List.length h0.1
            rw [List.length_take, List.length_drop, hyl] at this
            omega
          obtain ⟨g1, g2⟩ := ih (o + W) (fun z hz => hy z (List.mem_cons_of_mem _ hz)) (fun i hil => by
            have := hi (i + 1) (by simp; omega)
            rw [List.getD_cons_succ, show o + (i + 1) * W = o + W + i * W by rw [Nat.succ_mul]; omega] at this
            exact this) hlen
          refine ⟨by rw [List.length_cons, Nat.succ_mul]; omega, ?_⟩
          rw [List.length_cons, Nat.succ_mul, Nat.add_comm, List.take_add, List.drop_drop, h0.1, g2, List.flatten_cons]
      obtain ⟨g1, g2⟩ := key (x :: l) o hls (fun i hi => hcells i hi) (by have := (hcells 0 (by simp)).2; omega)
      simp only [srcCells, List.length_cons, Nat.add_eq_zero_iff, Nat.succ_ne_zero, and_false, if_false, Nat.le_refl, if_true]
      unfold loadCellsAt
      simp only [Option.isSome_none, Bool.false_eq_true, if_false, hgh]
      rw [List.length_cons] at g1 g2
      rw [if_pos g1, g2]
  · have hs' : Hs G h (slc W e a c (l.length, l.flatten) :: L) := ⟨hs.base, hs.old, hs.wf, hs.fr, ⟨_, ⟨r1, r2, hr, h2, hd, rfl⟩, hin⟩⟩
    exact slc_src hs'
theorem flat_len2 {l : List (List Value)} (hl : ∀ x ∈ l, x.length = W) : l.flatten.length = l.length * W := by
  induction l with
  | nil => simp
  | cons x l ih => rw [List.flatten_cons, List.length_append, hl x List.mem_cons_self, ih fun y hy => hl y (List.mem_cons_of_mem _ hy), List.length_cons, Nat.succ_mul]; omega
/-- what is read is put behind a slice of one's own -/
theorem r_appR {bytes c n m : Nat} {e2 : TypeId} {a : Option Addr} {cs : List Value} {v : Value} {l : List (List Value)} {k : Value × AH → Prop} (hs : Hs G h L) [mm : Has (slc W e a c) L (n, cs) L'] [mn : HasX (rdS G W e2 v l) L' M] (hW : 0 < W) (hm : l.length = m) (hc : l.flatten.all cellB = true) (hsz : (n + m) * (bytes + 1) ≤ 2 ^ 46)
    (hk : ∀ a' c' h', Hs G h' (slc W e a' c' (n + m, cs ++ l.flatten) :: L') → k (.slice a' (n + m) c', h')) : thn (appV W bytes e h (.slice a n c) v) k := by
  have hs2 := (mm.of hs).tail.front (rdS G W e2 v l)
  subst hm
  refine r_app (k := fun x y => k (x, y)) hs (m := l.length) (src := v) (ns := l.flatten) ?_ (rd_src hs2 hW) hc (flat_len2 (rd_lens hs2)) hsz hk
  obtain ⟨a2, c2, rfl⟩ := rd_slice hs2
  rfl
theorem Hs.front4 {L1 L2 L3 L4 : List HP} (A B C D : HP) (hs : Hs G h L) [k : HasX A L L1] [k2 : HasX B L1 L2] [k3 : HasX C L2 L3] [k4 : HasX D L3 L4] : Hs G h (A :: B :: C :: D :: L4) :=
  (hs.front3 A B C).perm (((k4.perm.cons C).cons B).cons A)
theorem Hs.bring5 {L1 : List HP} {A B C D : HP} (E : HP) (hs : Hs G h (A :: B :: C :: D :: L)) [k : HasX E L L1] : Hs G h (A :: B :: C :: D :: E :: L1) := hs.perm ((((k.perm.cons D).cons C).cons B).cons A)
theorem r_eqNil {a : Option Addr} {n c : Nat} {k : Value → Prop} (h1 : a = none → k (.bool true)) (h2 : a ≠ none → k (.bool false)) : thn (biS .eql (.slice a n c) (.slice none 0 0)) k := by
  cases a with
  | none => exact ⟨_, rfl, h1 rfl⟩
  | some a => exact ⟨_, rfl, h2 (by simp)⟩
/-- 'slices.Clone' of a slice of one's own -/
theorem r_clone {bytes n c : Nat} {a : Option Addr} {cs : List Value} {Q : Value → AH → Prop} (hs : Hs G h L) [m : Has (slc W e a c) L (n, cs) L'] (hsz : n * (bytes + 1) ≤ 2 ^ 46)
    (hk : ∀ a' c' h', Hs G h' (slc W e a' c' (n, cs) :: slc W e a c (n, cs) :: L') → Q (.slice a' n c') h') :
    thn (biS .eql (.slice a n c) (.slice none 0 0)) fun v0 => Br v0 (Q (.slice none 0 0) h) (thn (fillL [] []) fun l2 => alcS h W e l2 0 0 fun s3 h1 => thn (appV W bytes e h1 s3 (.slice a n c)) fun r4 => (fun v5 h6 => Q v5 h6) r4.1 r4.2) := by
  have hs := m.of hs
  refine r_eqNil (fun ha => r_brt ?_) (fun _ => r_brf (r_fill (c := []) rfl ?_))
  · subst ha
    have hn : n = 0 := by
      rcases Nat.eq_zero_or_pos n with h0 | h0
      · exact h0
      · obtain ⟨b, o, ha, _⟩ := hs.slcOpen h0; cases ha
    subst hn
    have hl := hs.slcLen
    simp only [Nat.zero_mul] at hl
    obtain rfl := List.eq_nil_of_length_eq_zero hl
    exact hk none 0 h (slc_nil hs)
  · refine r_newS (W := W) (n := 0) (c := 0) hs (by simp) rfl rfl ?_
    intro a2 h hs
    refine r_appS (a := some a2) (c := 0) (n := 0) (cs := []) (a2 := a) (c2 := c) (m := n) (ns := cs) hs (by rw [Nat.zero_add]; exact hsz) ?_
    intro a' c' h hs
    have := hk a' c' h (by simpa using hs)
    simpa using this
/-- 'slices.Clone' of what is read alone -/
theorem r_cloneR {bytes n : Nat} {e2 : TypeId} {v : Value} {l : List (List Value)} {Q : Value → AH → Prop} (hs : Hs G h (rdS G W e2 v l :: L)) (hW : 0 < W) (hm : l.length = n) (hc : l.flatten.all cellB = true) (hsz : n * (bytes + 1) ≤ 2 ^ 46)
    (hk : ∀ a' c' h', Hs G h' (slc W e a' c' (n, l.flatten) :: rdS G W e2 v l :: L) → Q (.slice a' n c') h') :
    thn (biS .eql v (.slice none 0 0)) fun v0 => Br v0 (Q (.slice none 0 0) h) (thn (fillL [] []) fun l2 => alcS h W e l2 0 0 fun s3 h1 => thn (appV W bytes e h1 s3 v) fun r4 => (fun v5 h6 => Q v5 h6) r4.1 r4.2) := by
  obtain ⟨a, c, hv⟩ := rd_slice hs
  have key : a = none → l = [] := by
    intro ha
    subst ha
    refine hs.headP fun r hr => ?_
    obtain ⟨hls, ⟨⟨a, c', h1, hall⟩, _⟩ | ⟨a, c', h1, hr⟩⟩ := hr
    · rw [hv] at h1
      cases h1
      rcases Nat.eq_zero_or_pos l.length with h0 | h0
      · exact List.eq_nil_of_length_eq_zero h0
      · obtain ⟨b, o, _, ha, _⟩ := hall 0 h0; cases ha
    · rw [hv] at h1
      cases h1
      rcases Nat.eq_zero_or_pos l.length with h0 | h0
      · exact List.eq_nil_of_length_eq_zero h0
      · obtain ⟨_, _, ⟨h1, _⟩ | ⟨h1, _⟩ | ⟨_, b, pre, post, ex, ha, _⟩⟩ := hr
        · exact absurd h1 (by simp; omega)
        · exact absurd h1 (by simp; omega)
        · cases ha
  have go : thn (fillL [] []) fun l2 => alcS h W e l2 0 0 fun s3 h1 => thn (appV W bytes e h1 s3 v) fun r4 => (fun v5 h6 => Q v5 h6) r4.1 r4.2 := by
    refine r_fill (c := []) rfl (r_newS (W := W) (n := 0) (c := 0) hs (by simp) rfl rfl ?_)
    intro a2 h hs
    refine r_appR (a := some a2) (c := 0) (n := 0) (cs := []) (e2 := e2) (l := l) hs hW hm hc (by rw [Nat.zero_add]; exact hsz) ?_
    intro a' c' h hs
    have := hk a' c' h (by simpa using hs)
    simpa using this
  subst hv
  refine r_eqNil (fun ha => r_brt ?_) (fun _ => r_brf go)
  obtain rfl := key ha
  simp only [List.length_nil] at hm
  subst hm
  exact hk none 0 h (slc_nil hs)
/-! ### Parts told by numbers -/
theorem Hs.bigEx {α : Type} {A : Nat → α → HP} (d : α) : ∀ (n : Nat) (L : List HP), Hs G h (big n (fun i => exH (A i)) :: L) → ∃ f : Nat → α, Hs G h (big n (fun i => A i (f i)) :: L) := by
  intro n
  induction n with
  | zero => intro L hs; exact ⟨fun _ => d, hs⟩
  | succ n ih =>
    intro L hs
    have hs : Hs G h (big n (fun i => exH (A i)) :: exH (A n) :: L) := by
      have h1 := hs.unpack
      rw [List.range_succ, List.map_append, List.append_assoc] at h1
      exact Hs.pack (A := (List.range n).map fun i => exH (A i)) h1
    obtain ⟨f, hs⟩ := ih _ hs
    obtain ⟨x, hs⟩ := hs.at2.exE
    refine ⟨fun i => if i = n then x else f i, ?_⟩
    refine Hs.bigS ?_
    simp only [if_true]
    have e : (List.range n).map (fun i => A i (if i = n then x else f i)) = (List.range n).map fun i => A i (f i) := List.map_congr_left fun i hi => by
      have := List.mem_range.1 hi
      rw [if_neg (by omega)]
    unfold big at hs ⊢
    rw [e]
    exact hs
theorem Hs.bigUn {f g : Nat → HP} : ∀ (n : Nat) (L : List HP), Hs G h (big n (fun i => sp [f i, g i]) :: L) → Hs G h (big n f :: big n g :: L) := by
  intro n
  induction n with
  | zero => intro L hs; exact Hs.big0 (Hs.big0 hs.tail)
  | succ n ih =>
    intro L hs
    have hs : Hs G h (big n (fun i => sp [f i, g i]) :: sp [f n, g n] :: L) := by
      have h1 := hs.unpack
      rw [List.range_succ, List.map_append, List.append_assoc] at h1
      exact Hs.pack (A := (List.range n).map fun i => sp [f i, g i]) h1
    have hs := ih _ hs
    have hs := (hs.front (sp [f n, g n])).un2
    have hs : Hs G h (f n :: big n f :: g n :: big n g :: L) := hs.perm ((List.Perm.swap _ _ _).cons _)
    have hs := Hs.bigS hs
    have hs := hs.front2 (g n) (big n g)
    exact (Hs.bigS hs).at2
/-! ### A slice of structs, each with memory of its own -/
theorem Hs.bigShut {α : Type} {b o cap n : Nat} {c : Nat → α → List Value} {d : Nat → α → HP} (x0 : α) (hl : ∀ i x, (c i x).length = W) (hc : ∀ i x, (c i x).all cellB = true) (hW : 0 < W) (h0 : 0 < n)
    (hs : Hs G h (big n (fun i => exH fun x => sp [seg b (o + i * W) (c i x), d i x]) :: hole G W e (some ⟨b, o, none⟩) cap n b o :: L)) :
    ∃ f : Nat → α, Hs G h (slc W e (some ⟨b, o, none⟩) cap (n, (List.range n).flatMap fun i => c i (f i)) :: big n (fun i => d i (f i)) :: L) := by
  obtain ⟨f, hs⟩ := Hs.bigEx (A := fun i x => sp [seg b (o + i * W) (c i x), d i x]) x0 n _ hs
  refine ⟨f, ?_⟩
  have hs := Hs.bigUn (f := fun i => seg b (o + i * W) (c i (f i))) (g := fun i => d i (f i)) n _ hs
  have hs := big_seg (c := fun i => c i (f i)) (fun i => hl i (f i)) hW n _ h0 hs
  have hs := hs.front3 (seg b o ((List.range n).flatMap fun i => c i (f i))) (hole G W e (some ⟨b, o, none⟩) cap n b o) (big n (fun i => d i (f i)))
  exact Hs.holeClose hs (flat_len (fun i => hl i (f i)) n) (flat_cells (fun i => hc i (f i)) n)
theorem Hs.bigNew {cap n : Nat} {a : Option Addr} {c : Nat → List Value} (hl : ∀ i, (c i).length = W) (h0 : 0 < n) (hs : Hs G h (slc W e a cap (n, (List.range n).flatMap c) :: L)) :
    ∃ b o, a = some ⟨b, o, none⟩ ∧ Hs G h (big n (fun i => seg b (o + i * W) (c i)) :: hole G W e a cap n b o :: L) := by
  obtain ⟨b, o, ha, hs⟩ := hs.holeOpen h0
  exact ⟨b, o, ha, seg_big hl n _ hs⟩
theorem Hs.bigOpn {α : Type} {b o cap n : Nat} {c : Nat → α → List Value} {d : Nat → α → HP} (f : Nat → α) (hl : ∀ i x, (c i x).length = W) (h0 : 0 < n)
    (hs : Hs G h (slc W e (some ⟨b, o, none⟩) cap (n, (List.range n).flatMap fun i => c i (f i)) :: big n (fun i => d i (f i)) :: L)) :
    Hs G h (big n (fun i => exH fun x => sp [seg b (o + i * W) (c i x), d i x]) :: hole G W e (some ⟨b, o, none⟩) cap n b o :: L) := by
  obtain ⟨b', o', ha, hs⟩ := Hs.bigNew (fun i => hl i (f i)) h0 hs
  cases ha
  have hs := hs.front2 (big n fun i => seg b (o + i * W) (c i (f i))) (big n fun i => d i (f i))
  exact Hs.bigZip (k := fun i => exH fun x => sp [seg b (o + i * W) (c i x), d i x]) (fun i h L hs => Hs.exI (A := fun x => sp [seg b (o + i * W) (c i x), d i x]) (f i) (Hs.pack (A := [_, _]) hs)) n _ hs
end Go.Ab
end
section
namespace Go.Ab
abbrev tx (l : List UInt8) : Value := .string ⟨l.toArray⟩
theorem r_lenX {l : List UInt8} {k : Value → Prop} (hk : k (I l.length)) : thn (lenT (tx l)) k := ⟨_, rfl, by simpa [ByteArray.size] using hk⟩
theorem r_atX {l : List UInt8} {i : Nat} {k : Value → Prop} (hi : i < l.length) (hk : k (.int .u8 (l[i]).toNat)) : thn (atS (tx l) (I i)) k := by
  refine ⟨_, ?_, hk⟩
  show (if (0 : Int) ≤ (i : Int) then ((⟨l.toArray⟩ : ByteArray)[((i : Int)).toNat]?).map _ else none) = _
  rw [if_pos (by omega), Int.toNat_natCast]
  have : (⟨l.toArray⟩ : ByteArray)[i]? = some l[i] := by
    rw [getElem?_pos (⟨l.toArray⟩ : ByteArray) i hi]; rfl
  rw [this]; rfl
theorem r_eqU {a b : Int} {k : Value → Prop} (hk : k (.bool (decide (a = b)))) : thn (biI .eql (.int .u8 a) (.int .u8 b)) k := ⟨_, by show some (Value.bool (a == b)) = _; rfl, hk⟩
theorem str_append {a b : List UInt8} : (⟨a.toArray⟩ : ByteArray) ++ ⟨b.toArray⟩ = ⟨(a ++ b).toArray⟩ := by
  apply ByteArray.ext
  rw [ByteArray.data_append]
  simp
theorem r_catX {a b : List UInt8} {k : Value → Prop} (h : a.length + b.length ≤ 2 ^ 62) (hk : k (tx (a ++ b))) : thn (biT .add (tx a) (tx b)) k := by
  refine ⟨_, ?_, hk⟩
  show astr .add _ _ = _
  have : (⟨a.toArray⟩ : ByteArray).size + (⟨b.toArray⟩ : ByteArray).size = a.length + b.length := rfl
  simp only [astr]
  rw [if_pos (by rw [this]; exact h), str_append]
theorem tx_eq {a b : List UInt8} : ((⟨a.toArray⟩ : ByteArray).toList == (⟨b.toArray⟩ : ByteArray).toList) = decide (a = b) := by
  rw [Lib.toList_data, Lib.toList_data, Bool.eq_iff_iff, decide_eq_true_eq, beq_iff_eq]
theorem r_eqX {a b : List UInt8} {k : Value → Prop} (hk : k (.bool (decide (a = b)))) : thn (biT .eql (tx a) (tx b)) k := by
  refine ⟨_, ?_, hk⟩
  show astr .eql _ _ = _
  simp only [astr]
  rw [tx_eq]
theorem r_neX {a b : List UInt8} {k : Value → Prop} (hk : k (.bool (decide (a ≠ b)))) : thn (biT .neq (tx a) (tx b)) k := by
  refine ⟨_, ?_, hk⟩
  show astr .neq _ _ = _
  simp only [astr]
  rw [tx_eq]
  simp
theorem veq_X {s : ByteArray} : veq (.string s) (.string s) = true := by simp only [veq]; unfold BEq.beq ByteArray.instBEq ByteArray.beq; simp
theorem r_convU {v : Int} {k : Value → Prop} (h : 0 ≤ v ∧ v < 256) (hk : k (.int .u8 v)) : thn (convI .u8 (I v)) k := ⟨_, by
  show some (Value.int .u8 (IntKind.wrap .u8 v)) = _
  rw [show IntKind.wrap .u8 v = v by simp [IntKind.wrap, IntKind.signed, IntKind.bits]; omega], hk⟩
theorem r_quoN {u : Nat} {k : Value → Prop} (h : u ≤ 9223372036854775808) (hk : k (I (-((u / 10 : Nat) : Int)))) : thn (biI .quo (I (-(u : Int))) (I 10)) k := by
  refine ⟨_, ?_, hk⟩
  show aint .quo .i64 (-(u : Int)) 10 = _
  simp only [aint]
  rw [if_neg (by decide), Int.neg_tdiv, show (u : Int).tdiv 10 = ((u / 10 : Nat) : Int) from rfl]
  show some (I (wr _)) = _
  rw [wr_in (by omega)]
theorem r_remN {u : Nat} {k : Value → Prop} (hk : k (I (-((u % 10 : Nat) : Int)))) : thn (biI .rem (I (-(u : Int))) (I 10)) k := by
  refine ⟨_, ?_, hk⟩
  show aint .rem .i64 (-(u : Int)) 10 = _
  simp only [aint]
  rw [if_neg (by decide), Int.neg_tmod, show (u : Int).tmod 10 = ((u % 10 : Nat) : Int) from rfl]
theorem nDig_le : ∀ (k n : Nat), n < 10 ^ (k + 1) → Lib.nDigits n ≤ k + 1 := by
  intro k
  induction k with
  | zero => intro n h; rw [Lib.nDigits]; split <;> omega
  | succ k ih =>
    intro n h
    rw [Lib.nDigits]
    split
    · omega
    · have := ih (n / 10) (by omega)
      omega
theorem dec_len {u : Nat} (h : u ≤ 9223372036854775808) : (Lib.decDigits u).length ≤ 19 := by
  rw [Lib.decDigits_length]; exact nDig_le 18 u (by omega)
theorem itoa_len {n : Int} (h : -9223372036854775808 ≤ n ∧ n ≤ 9223372036854775807) : (Lib.itoa n).length ≤ 20 := by
  unfold Lib.itoa
  have h1 := dec_len (u := n.natAbs) (by omega)
  split
  · simp; omega
  · have h2 := dec_len (u := n.toNat) (by omega)
    omega
theorem tx_extract {l : List UInt8} {a b : Nat} : (⟨l.toArray⟩ : ByteArray).extract a b = ⟨((l.take b).drop a).toArray⟩ := by
  apply ByteArray.ext
  rw [ByteArray.data_extract]
  apply Array.ext'
  simp [List.drop_take]
theorem r_slTto {l : List UInt8} {n : Nat} {k : Value → Prop} (hn : n ≤ l.length) (hk : k (tx (l.take n))) : thn (slT (tx l) none (some (I n))) k := by
  refine ⟨_, ?_, hk⟩
  have hs : (⟨l.toArray⟩ : ByteArray).size = l.length := rfl
  simp only [slT, bnd, hs]
  rw [if_pos (by omega)]
  simp only [Int.toNat_natCast]
  rw [tx_extract, List.drop_zero]
theorem r_slTfrom {l : List UInt8} {n : Nat} {k : Value → Prop} (hn : n ≤ l.length) (hk : k (tx (l.drop n))) : thn (slT (tx l) (some (I n)) none) k := by
  refine ⟨_, ?_, hk⟩
  have hs : (⟨l.toArray⟩ : ByteArray).size = l.length := rfl
  simp only [slT, bnd, hs]
  rw [if_pos (by omega)]
  simp only [Int.toNat_natCast]
  rw [tx_extract, List.take_of_length_le (Nat.le_refl _)]
variable {G : Bg} {h : AH} {L L' : List HP}
theorem r_strOf1 {e : TypeId} {a : Addr} {c : Nat} {v : Nat} {k : Value → Prop} (hv : v < 256) (hs : Hs G h (slc 1 e (some a) c (1, [.int .u8 v]) :: L)) (hk : k (tx [UInt8.ofNat v])) : thn (strOf h (.slice (some a) 1 c)) k := by
  have h1 := slc_src hs
  simp only [srcCells] at h1
  rw [if_neg (by decide), if_pos (by decide)] at h1
  refine ⟨_, ?_, hk⟩
  simp only [strOf]
  rw [if_neg (by decide)]
  have h1 : loadCellsAt h a 1 = some [.int .u8 v] := h1
  rw [h1]
  rfl
/-- many marks are closed -/
def mks (ds : List Nat) : HP := sp (ds.map fun d => mk d ())
theorem r_cms {k : AH → Prop} : ∀ (ds : List Nat) {h : AH}, Hs G h (mks ds :: L) → (∀ h', Hs G h' L → k h') → thn (closeMarks ds h) k := by
  intro ds
  induction ds with
  | nil => intro h hs hk; exact r_cm0 (hk _ hs.tail)
  | cons d ds ih =>
    intro h hs hk
    have hs : Hs G h (mk d () :: ((ds.map fun d => mk d ()) ++ L)) := Hs.unpack hs
    exact r_cm1 hs fun h hs => ih (Hs.pack hs) hk
theorem mks_cons {d : Nat} {ds : List Nat} (hs : Hs G h (mk d () :: mks ds :: L)) : Hs G h (mks (d :: ds) :: L) := by
  have : Hs G h (mks ds :: mk d () :: L) := hs.at2
  have := Hs.unpack this
  refine Hs.pack (A := mk d () :: ds.map fun d => mk d ()) ?_
  exact this.perm (by
    show ((ds.map fun d => mk d ()) ++ (mk d () :: L)).Perm (mk d () :: ((ds.map fun d => mk d ()) ++ L))
    exact List.perm_middle)
theorem mks_nil (hs : Hs G h L) : Hs G h (mks [] :: L) := Hs.pack (A := []) hs
end Go.Ab
end
