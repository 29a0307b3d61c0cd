/- The abstract machine: what stands for what. -/
import Derived.Test.YtflmoocllahjnaaAb2
namespace Go.Ab
open Go.RowKit

def Ext (ρ ρ' : Rho) : Prop := ∀ i x, ρ i = some x → ρ' i = some x
theorem Ext.refl (ρ : Rho) : Ext ρ ρ := fun _ _ h => h
theorem Ext.trans {a b c : Rho} (h : Ext a b) (k : Ext b c) : Ext a c := fun i x hx => k i x (h i x hx)

theorem FRel.mono {ρ ρ' : Rho} (h : Ext ρ ρ') {f g : Fn} (k : FRel ρ f g) : FRel ρ' f g := by
  cases f <;> simp only [FRel] at k ⊢ <;> try exact k
  obtain ⟨b, s, hb, hg⟩ := k
  exact ⟨b, s, h _ _ hb, hg⟩

mutual
theorem VRel.mono {ρ ρ' : Rho} (h : Ext ρ ρ') : ∀ (v v' : Value), VRel ρ v v' → VRel ρ' v v'
  | .bool _, _, k => by simp only [VRel] at k ⊢; exact k
  | .int _ _, _, k => by simp only [VRel] at k ⊢; exact k
  | .float _ _, _, k => by simp only [VRel] at k ⊢; exact k
  | .complex _ _ _, _, k => by simp only [VRel] at k ⊢; exact k
  | .string _, _, k => by simp only [VRel] at k ⊢; exact k
  | .pointer none, _, k => by simp only [VRel] at k ⊢; exact k
  | .pointer (some _), _, k => by simp only [VRel] at k ⊢; obtain ⟨b, s, hb, hv⟩ := k; exact ⟨b, s, h _ _ hb, hv⟩
  | .slice none _ _, _, k => by simp only [VRel] at k ⊢; exact k
  | .slice (some ⟨_, _, some _⟩) _ _, _, k => by simp only [VRel] at k ⊢; exact k
  | .slice (some ⟨_, _, none⟩) _ _, _, k => by simp only [VRel] at k ⊢; obtain ⟨b, s, c', hb, hv⟩ := k; exact ⟨b, s, c', h _ _ hb, hv⟩
  | .map none, _, k => by simp only [VRel] at k ⊢; exact k
  | .map (some _), _, k => by simp only [VRel] at k ⊢; obtain ⟨b, s, hb, hv⟩ := k; exact ⟨b, s, h _ _ hb, hv⟩
  | .chan none, _, _ => by simp only [VRel]
  | .chan (some _), _, k => by simp only [VRel] at k
  | .func _ fs cs, _, k => by
    simp only [VRel] at k ⊢
    obtain ⟨fn', fs', cs', h1, h2, h3, hv⟩ := k
    exact ⟨fn', fs', cs', h1.mono h, ARel.mono h fs fs' h2, ARel.mono h cs cs' h3, hv⟩
  | .nilFunc, _, k => by simp only [VRel] at k ⊢; exact k
  | .iface _ v, _, k => by simp only [VRel] at k ⊢; obtain ⟨u, hu, hv⟩ := k; exact ⟨u, VRel.mono h v u hu, hv⟩
  | .nilIface, _, k => by simp only [VRel] at k ⊢; exact k
  | .agg cs, _, k => by simp only [VRel] at k ⊢; obtain ⟨cs', hc, hv⟩ := k; exact ⟨cs', ARel.mono h cs cs' hc, hv⟩
  | .tuple cs, _, k => by simp only [VRel] at k ⊢; obtain ⟨cs', hc, hv⟩ := k; exact ⟨cs', ARel.mono h cs cs' hc, hv⟩
theorem ARel.mono {ρ ρ' : Rho} (h : Ext ρ ρ') : ∀ (v v' : Array Value), ARel ρ v v' → ARel ρ' v v'
  | ⟨l⟩, a, k => by simp only [ARel] at k ⊢; exact LRel.mono h l a.toList k
theorem LRel.mono {ρ ρ' : Rho} (h : Ext ρ ρ') : ∀ (l l' : List Value), LRel ρ l l' → LRel ρ' l l'
  | [], _, k => by simp only [LRel] at k ⊢; exact k
  | v :: l, _, k => by
    simp only [LRel] at k ⊢
    obtain ⟨v', t', h1, h2, h3⟩ := k
    exact ⟨v', t', VRel.mono h v v' h1, LRel.mono h l t' h2, h3⟩
end

mutual
theorem plainV_rel {ρ : Rho} : ∀ (v : Value), plainV v = true → VRel ρ v v
  | .bool _, _ => by simp only [VRel]
  | .int _ _, _ => by simp only [VRel]
  | .float _ _, h => by simp [plainV] at h
  | .complex _ _ _, h => by simp [plainV] at h
  | .string _, _ => by simp only [VRel]
  | .pointer none, _ => by simp only [VRel]
  | .pointer (some _), h => by simp [plainV] at h
  | .slice none _ _, _ => by simp only [VRel]
  | .slice (some _) _ _, h => by simp [plainV] at h
  | .map none, _ => by simp only [VRel]
  | .map (some _), h => by simp [plainV] at h
  | .chan _, h => by simp [plainV] at h
  | .func _ _ _, h => by simp [plainV] at h
  | .nilFunc, _ => by simp only [VRel]
  | .iface _ v, h => by simp only [VRel]; simp only [plainV] at h; exact ⟨v, plainV_rel v h, rfl⟩
  | .nilIface, _ => by simp only [VRel]
  | .agg cs, h => by simp only [VRel]; simp only [plainV] at h; exact ⟨cs, plainA_rel cs h, rfl⟩
  | .tuple cs, h => by simp only [VRel]; simp only [plainV] at h; exact ⟨cs, plainA_rel cs h, rfl⟩
theorem plainA_rel {ρ : Rho} : ∀ (v : Array Value), plainA v = true → ARel ρ v v
  | ⟨l⟩, h => by simp only [plainA] at h; simp only [ARel]; exact plainL_rel l h
theorem plainL_rel {ρ : Rho} : ∀ (l : List Value), plainL l = true → LRel ρ l l
  | [], _ => by simp only [LRel]
  | v :: l, h => by
    simp only [plainL, Bool.and_eq_true] at h
    simp only [LRel]
    exact ⟨v, l, plainV_rel v h.1, plainL_rel l h.2, rfl⟩
end

theorem ARel_iff {ρ : Rho} {a b : Array Value} : ARel ρ a b ↔ LRel ρ a.toList b.toList := by cases a; simp only [ARel]

section lists
variable {ρ : Rho}
theorem LRel.nil : LRel ρ [] [] := by simp only [LRel]
theorem LRel.cons {v v' : Value} {l l' : List Value} (h : VRel ρ v v') (k : LRel ρ l l') : LRel ρ (v :: l) (v' :: l') := by
  simp only [LRel]; exact ⟨v', l', h, k, rfl⟩
theorem LRel.cons_iff {v v' : Value} {l l' : List Value} : LRel ρ (v :: l) (v' :: l') ↔ VRel ρ v v' ∧ LRel ρ l l' := by
  constructor
  · intro h
    simp only [LRel] at h
    obtain ⟨a, b, h1, h2, h3⟩ := h
    cases h3
    exact ⟨h1, h2⟩
  · exact fun h => LRel.cons h.1 h.2
theorem LRel.length : ∀ {l l' : List Value}, LRel ρ l l' → l'.length = l.length
  | [], l', h => by simp only [LRel] at h; simp [h]
  | v :: l, l', h => by
    simp only [LRel] at h
    obtain ⟨v', t', _, h2, rfl⟩ := h
    simp [LRel.length h2]
theorem LRel.get : ∀ {l l' : List Value} {i : Nat} {v : Value}, LRel ρ l l' → l[i]? = some v → ∃ v', l'[i]? = some v' ∧ VRel ρ v v'
  | [], l', i, v, h, k => by simp at k
  | u :: l, l', 0, v, h, k => by
    simp only [LRel] at h
    obtain ⟨v', t', h1, _, rfl⟩ := h
    simp at k; subst k
    exact ⟨v', rfl, h1⟩
  | u :: l, l', i + 1, v, h, k => by
    simp only [LRel] at h
    obtain ⟨v', t', _, h2, rfl⟩ := h
    simp at k
    simpa using LRel.get h2 k
theorem LRel.get_none {l l' : List Value} {i : Nat} (h : LRel ρ l l') (k : l[i]? = none) : l'[i]? = none := by
  rw [List.getElem?_eq_none_iff] at k ⊢
  rw [h.length]; exact k
theorem LRel.getD {l l' : List Value} (i : Nat) (h : LRel ρ l l') : VRel ρ (l.getD i undef) (l'.getD i undef) := by
  cases k : l[i]? with
  | none =>
    have k' := h.get_none k
    rw [List.getD_eq_getElem?_getD, List.getD_eq_getElem?_getD, k, k']
    exact plainV_rel undef (by simp [undef, plainV, plainA, plainL])
  | some v =>
    obtain ⟨v', hv, hr⟩ := h.get k
    rw [List.getD_eq_getElem?_getD, List.getD_eq_getElem?_getD, k, hv]
    exact hr
theorem LRel.append : ∀ {l l' m m' : List Value}, LRel ρ l l' → LRel ρ m m' → LRel ρ (l ++ m) (l' ++ m')
  | [], l', m, m', h, k => by simp only [LRel] at h; subst h; exact k
  | v :: l, l', m, m', h, k => by
    simp only [LRel] at h
    obtain ⟨v', t', h1, h2, rfl⟩ := h
    exact LRel.cons h1 (LRel.append h2 k)
theorem LRel.take : ∀ {l l' : List Value} (n : Nat), LRel ρ l l' → LRel ρ (l.take n) (l'.take n)
  | _, _, 0, _ => by simp [LRel.nil]
  | [], l', n + 1, h => by simp only [LRel] at h; subst h; exact LRel.nil
  | v :: l, l', n + 1, h => by
    simp only [LRel] at h
    obtain ⟨v', t', h1, h2, rfl⟩ := h
    exact LRel.cons h1 (LRel.take n h2)
theorem LRel.drop : ∀ {l l' : List Value} (n : Nat), LRel ρ l l' → LRel ρ (l.drop n) (l'.drop n)
  | _, _, 0, h => by simpa using h
  | [], l', n + 1, h => by simp only [LRel] at h; subst h; exact LRel.nil
  | v :: l, l', n + 1, h => by
    simp only [LRel] at h
    obtain ⟨v', t', h1, h2, rfl⟩ := h
    exact LRel.drop n h2
theorem LRel.set : ∀ {l l' : List Value} (i : Nat) {v v' : Value}, LRel ρ l l' → VRel ρ v v' → LRel ρ (l.set i v) (l'.set i v')
  | [], l', i, v, v', h, k => by simp only [LRel] at h; subst h; exact LRel.nil
  | u :: l, l', 0, v, v', h, k => by
    simp only [LRel] at h
    obtain ⟨w', t', h1, h2, rfl⟩ := h
    exact LRel.cons k h2
  | u :: l, l', i + 1, v, v', h, k => by
    simp only [LRel] at h
    obtain ⟨w', t', h1, h2, rfl⟩ := h
    exact LRel.cons h1 (LRel.set i h2 k)
theorem LRel.splice {l l' m m' : List Value} (i : Nat) (h : LRel ρ l l') (k : LRel ρ m m') : LRel ρ (splice l i m) (splice l' i m') := by
  unfold Ab.splice
  rw [k.length]
  exact ((h.take i).append k).append (h.drop _)
theorem LRel.replicate {v v' : Value} (n : Nat) (h : VRel ρ v v') : LRel ρ (List.replicate n v) (List.replicate n v') := by
  induction n with
  | zero => exact LRel.nil
  | succ n ih => exact LRel.cons h ih
theorem LRel.map_ev {α : Type} {f g : α → Value} (h : ∀ x, VRel ρ (f x) (g x)) : ∀ l : List α, LRel ρ (l.map f) (l.map g)
  | [] => LRel.nil
  | x :: l => LRel.cons (h x) (LRel.map_ev h l)
end lists

/-! ### What is known of a value -/
section vals
variable {ρ : Rho}
theorem VRel.cells {v v' : Value} (h : VRel ρ v v') (ht : isTop v = false) : LRel ρ v.cells.toList v'.cells.toList := by
  cases v with
  | agg cs => simp only [VRel] at h; obtain ⟨cs', hc, rfl⟩ := h; exact ARel_iff.1 hc
  | chan r => simp [isTop] at ht
  | pointer a =>
    have h0 := h
    cases a with
    | none => simp only [VRel] at h; subst h; exact LRel.cons h0 LRel.nil
    | some a => simp only [VRel] at h; obtain ⟨b, s, hb, rfl⟩ := h; exact LRel.cons h0 LRel.nil
  | slice a l c =>
    have h0 := h
    cases a with
    | none => simp only [VRel] at h; subst h; exact LRel.cons h0 LRel.nil
    | some a =>
      obtain ⟨i, o, sp⟩ := a
      cases sp with
      | none => simp only [VRel] at h; obtain ⟨b, s, c', hb, _, _, rfl⟩ := h; exact LRel.cons h0 LRel.nil
      | some _ => simp only [VRel] at h; obtain ⟨_, _, a', c', rfl⟩ := h; exact LRel.cons h0 LRel.nil
  | map r =>
    have h0 := h
    cases r with
    | none => simp only [VRel] at h; subst h; exact LRel.cons h0 LRel.nil
    | some a => simp only [VRel] at h; obtain ⟨b, s, hb, rfl⟩ := h; exact LRel.cons h0 LRel.nil
  | func fn a b => have h0 := h; simp only [VRel] at h; obtain ⟨_, _, _, _, _, _, rfl⟩ := h; exact LRel.cons h0 LRel.nil
  | iface t v => have h0 := h; simp only [VRel] at h; obtain ⟨_, _, rfl⟩ := h; exact LRel.cons h0 LRel.nil
  | tuple t => have h0 := h; simp only [VRel] at h; obtain ⟨_, _, rfl⟩ := h; exact LRel.cons h0 LRel.nil
  | _ => have h0 := h; simp only [VRel] at h; subst h; exact LRel.cons h0 LRel.nil
theorem VRel.oneCell {v v' : Value} (h : VRel ρ v v') (hc : cellB v = true) : v'.oneCell' = true := by
  cases v with
  | agg cs => simp [cellB] at hc
  | chan r => simp [cellB] at hc
  | tuple t => simp [cellB] at hc
  | pointer a => cases a with
    | none => simp only [VRel] at h; subst h; rfl
    | some a => simp only [VRel] at h; obtain ⟨b, s, hb, rfl⟩ := h; rfl
  | slice a l c => cases a with
    | none => simp only [VRel] at h; subst h; rfl
    | some a =>
      obtain ⟨i, o, sp⟩ := a
      cases sp with
      | none => simp only [VRel] at h; obtain ⟨b, s, c', hb, _, _, rfl⟩ := h; rfl
      | some _ => simp only [VRel] at h; obtain ⟨_, _, a', c', rfl⟩ := h; rfl
  | map r => cases r with
    | none => simp only [VRel] at h; subst h; rfl
    | some a => simp only [VRel] at h; obtain ⟨b, s, hb, rfl⟩ := h; rfl
  | func fn a b => simp only [VRel] at h; obtain ⟨_, _, _, _, _, _, rfl⟩ := h; rfl
  | iface t v => simp only [VRel] at h; obtain ⟨_, _, rfl⟩ := h; rfl
  | _ => simp only [VRel] at h; subst h; rfl
end vals

/-! ### Blocks, heaps -/
def ERel (ρ : Rho) : List (Value × Value × Nat) → List MapEntry → Prop
  | [], es => es = []
  | (k, v, n) :: l, es => ∃ k' v' t, VRel ρ k k' ∧ VRel ρ v v' ∧ ERel ρ l t ∧ es = { key := k', val := v', born := n } :: t
theorem ERel.mono {ρ ρ' : Rho} (h : Ext ρ ρ') : ∀ (l : List (Value × Value × Nat)) (es : List MapEntry), ERel ρ l es → ERel ρ' l es
  | [], _, k => k
  | (_, _, _) :: l, _, ⟨k', v', t, h1, h2, h3, h4⟩ => ⟨k', v', t, VRel.mono h _ _ h1, VRel.mono h _ _ h2, ERel.mono h l t h3, h4⟩

def BRel (P : Program) (ρ : Rho) (s : Nat) : Blk → Obj → Prop
  | .cells c e fz x, o => ∃ c' : Array Value, o = .cells c' e fz ∧ LRel ρ c (c'.toList.take c.length) ∧ c.length + s * P.cellsOf e ≤ c'.size ∧ (x = true → s = 0)
  | .loop st pend fn tmps params assign body d, o => ∃ tmps' d' s', LRel ρ tmps tmps' ∧ ρ d = some (d', s') ∧
      o = .loop { state := st, pending := pend, fn := fn, tmps := ⟨tmps'⟩, params := params, assign := assign, body := body, defers := d' }
  | .marks here, o => o = .deferred (if here then some [] else none)
  | .map es clock, o => ∃ es', ERel ρ es es' ∧ o = .map ⟨es'⟩ clock
  | .mapIter m since seen last, o => ∃ m', (match m with | none => m' = none | some r => ∃ b s, ρ r = some (b, s) ∧ m' = some b) ∧ o = .mapIter m' since ⟨seen⟩ last
  | .strIter s pos, o => o = .stringIter s pos
theorem BRel.mono {P : Program} {ρ ρ' : Rho} (h : Ext ρ ρ') {s : Nat} {b : Blk} {o : Obj} (k : BRel P ρ s b o) : BRel P ρ' s b o := by
  cases b with
  | cells c e fz x => obtain ⟨c', h1, h2, h3⟩ := k; exact ⟨c', h1, LRel.mono h _ _ h2, h3⟩
  | loop st pend fn tmps params assign body d => obtain ⟨t', d', s', h1, h2, h3⟩ := k; exact ⟨t', d', s', LRel.mono h _ _ h1, h _ _ h2, h3⟩
  | marks _ => exact k
  | map es c => obtain ⟨es', h1, h2⟩ := k; exact ⟨es', ERel.mono h _ _ h1, h2⟩
  | mapIter m _ _ _ =>
    obtain ⟨m', h1, h2⟩ := k
    refine ⟨m', ?_, h2⟩
    cases m with
    | none => exact h1
    | some r => obtain ⟨b, s, hb, hm⟩ := h1; exact ⟨b, s, h _ _ hb, hm⟩
  | strIter s p => exact k

/-- The abstract heap stands for the world. A block without a number in 'ρ' is not there yet. -/
structure Inv (P : Program) (B : Nat) (ρ : Rho) (h : AH) (w : World) : Prop where
  blk : ∀ i o, h.get i = some o → ∀ b s, ρ i = some (b, s) → ∃ o', w.heap[b]? = some o' ∧ BRel P ρ s o o'
  inj : ∀ i j b si sj, h.base ≤ i → h.base ≤ j → (h.get i).isSome → (h.get j).isSome → ρ i = some (b, si) → ρ j = some (b, sj) → i = j
  low : ∀ i b s, h.base ≤ i → (h.get i).isSome → ρ i = some (b, s) → B ≤ b
  old : ∀ i b s, i < h.base → ρ i = some (b, s) → b < B
  fresh : ∀ i, h.next ≤ i → ρ i = none
  freshG : ∀ i, h.next ≤ i → h.get i = none
  glob : ∀ g, g < P.globals.size → ρ g = some (g, 0)
  size : B ≤ w.heap.size
  bn : h.base ≤ h.next

/-- From one to the next. -/
structure Evo (P : Program) (B : Nat) (ρ : Rho) (h : AH) (w : World) (ρ' : Rho) (h' : AH) (w' : World) : Prop where
  ext : Ext ρ ρ'
  inv : Inv P B ρ' h' w'
  un : ∀ i, i < h.next → ρ i = none → ρ' i = none
  keepU : ∀ i, i < h.next → ρ i = none → h'.get i = h.get i
  stay : ∀ i, i < h.next → h.get i = none → h'.get i = none
  frame : ∀ b, b < w.heap.size → (∀ i s, h.base ≤ i → (h.get i).isSome → ρ i ≠ some (b, s)) → w'.heap[b]? = w.heap[b]?
  range : ∀ i b s, h.base ≤ i → (h'.get i).isSome → ρ' i = some (b, s) → b < w.heap.size → ∃ j s', h.base ≤ j ∧ (h.get j).isSome ∧ ρ j = some (b, s')
  base : h'.base = h.base
  oldG : ∀ i, i < h.base → h'.get i = h.get i
  next : h.next ≤ h'.next
  size : w.heap.size ≤ w'.heap.size
  os : w'.os = w.os
  out : w'.output = w.output
  tape : w'.tape = w.tape

theorem Evo.refl {P : Program} {B : Nat} {ρ : Rho} {h : AH} {w : World} (hi : Inv P B ρ h w) : Evo P B ρ h w ρ h w where
  ext := Ext.refl ρ
  inv := hi
  un := fun _ _ h => h
  keepU := fun _ _ _ => rfl
  stay := fun _ _ hn => hn
  frame := fun _ _ _ => rfl
  range := fun i b s h1 h2 h3 _ => ⟨i, s, h1, h2, h3⟩
  base := rfl
  oldG := fun _ _ => rfl
  next := Nat.le_refl _
  size := Nat.le_refl _
  os := rfl
  out := rfl
  tape := rfl

theorem Evo.trans {P : Program} {B : Nat} {ρ ρ1 ρ2 : Rho} {h h1 h2 : AH} {w w1 w2 : World} (a : Evo P B ρ h w ρ1 h1 w1) (b : Evo P B ρ1 h1 w1 ρ2 h2 w2) : Evo P B ρ h w ρ2 h2 w2 where
  ext := a.ext.trans b.ext
  inv := b.inv
  un := fun i hi hn => b.un i (Nat.lt_of_lt_of_le hi a.next) (a.un i hi hn)
  keepU := fun i hi hn => (b.keepU i (Nat.lt_of_lt_of_le hi a.next) (a.un i hi hn)).trans (a.keepU i hi hn)
  stay := fun i hi hn => b.stay i (Nat.lt_of_lt_of_le hi a.next) (a.stay i hi hn)
  frame := fun x hx hn => by
    refine (b.frame x (Nat.lt_of_lt_of_le hx a.size) ?_).trans (a.frame x hx hn)
    intro i s hb hl he
    rw [a.base] at hb
    obtain ⟨j, s', hj1, hj2, hj3⟩ := a.range i x s hb hl he hx
    exact hn j s' hj1 hj2 hj3
  range := fun i x s hb hl he hx => by
    obtain ⟨j, s', hj1, hj2, hj3⟩ := b.range i x s (by rw [a.base]; exact hb) hl he (Nat.lt_of_lt_of_le hx a.size)
    rw [a.base] at hj1
    exact a.range j x s' hj1 hj2 hj3 hx
  base := b.base.trans a.base
  oldG := fun i hi => (b.oldG i (by rw [a.base]; exact hi)).trans (a.oldG i hi)
  next := Nat.le_trans a.next b.next
  size := Nat.le_trans a.size b.size
  os := b.os.trans a.os
  out := b.out.trans a.out
  tape := b.tape.trans a.tape

theorem Evo.below {P : Program} {B : Nat} {ρ ρ' : Rho} {h h' : AH} {w w' : World} (hi : Inv P B ρ h w) (e : Evo P B ρ h w ρ' h' w') : Below B w w' :=
  ⟨e.os, e.tape, e.out, e.size, fun k hk => e.frame k (Nat.lt_of_lt_of_le hk hi.size) fun i s hb hl he => absurd (hi.low i k s hb hl he) (Nat.not_le.2 hk)⟩

end Go.Ab
