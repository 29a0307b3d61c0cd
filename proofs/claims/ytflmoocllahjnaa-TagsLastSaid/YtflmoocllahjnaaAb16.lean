/- The abstract machine: regions that draw their order (the plain part). -/
import Derived.Test.YtflmoocllahjnaaAb15
namespace Go.Ab
open Go.RowKit
variable {P : Program}

/-! ### What an operation looks at -/
theorem map_congr_ops {α : Type} {f g : α → Value} : ∀ (l : List α), (∀ x ∈ l, f x = g x) → l.map f = l.map g
  | [], _ => rfl
  | x :: l, h => by simp only [List.map_cons]; rw [h x List.mem_cons_self, map_congr_ops l fun y hy => h y (List.mem_cons_of_mem _ hy)]
theorem alight_congr {ev ev' : Operand → Value} {h : AH} (op : Op) (he : ∀ x ∈ op.operands.toList, ev x = ev' x) : alight P ev h op = alight P ev' h op := by
  cases op with
  | build t parts =>
    simp only [alight]
    congr 1
    have : ∀ l : List (Nat × Operand), (∀ p ∈ l, ev p.2 = ev' p.2) → l.map (fun p => (p.1, ev p.2)) = l.map fun p => (p.1, ev' p.2) := by
      intro l hl
      induction l with
      | nil => rfl
      | cons p l ih => simp only [List.map_cons]; rw [hl p List.mem_cons_self, ih fun q hq => hl q (List.mem_cons_of_mem _ hq)]
    exact this _ fun p hp => he _ (by simp only [Op.operands]; exact List.mem_map_of_mem hp)
  | makeFunc fn first captured =>
    simp only [alight]
    have h1 : first.map ev = first.map ev' := Array.ext' (by simp only [Array.toList_map]; exact map_congr_ops _ fun x hx => he x (by simp only [Op.operands, Array.toList_append]; exact List.mem_append_left _ hx))
    have h2 : captured.map ev = captured.map ev' := Array.ext' (by simp only [Array.toList_map]; exact map_congr_ops _ fun x hx => he x (by simp only [Op.operands, Array.toList_append]; exact List.mem_append_right _ hx))
    rw [h1, h2]
  | slice t x lo hi mx =>
    simp only [alight]
    have hx : ev x = ev' x := he x (by simp [Op.operands])
    have h1 : lo.map ev = lo.map ev' := by cases lo with | none => rfl | some y => simp only [Option.map_some]; rw [he y (by simp [Op.operands])]
    have h2 : hi.map ev = hi.map ev' := by cases hi with | none => rfl | some y => simp only [Option.map_some]; rw [he y (by simp [Op.operands])]
    have h3 : mx.map ev = mx.map ev' := by cases mx with | none => rfl | some y => simp only [Option.map_some]; rw [he y (by simp [Op.operands])]
    rw [hx, h1, h2, h3]
  | move x => simp only [alight]; rw [he x (by simp [Op.operands])]
  | assign x => simp only [alight]; rw [he x (by simp [Op.operands])]
  | pick c a b => simp only [alight]; rw [he c (by simp [Op.operands]), he a (by simp [Op.operands]), he b (by simp [Op.operands])]
  | load t a => simp only [alight]; rw [he a (by simp [Op.operands])]
  | nilCheck x => simp only [alight]; rw [he x (by simp [Op.operands])]
  | binOp op t x y yt => simp only [alight]; rw [he x (by simp [Op.operands]), he y (by simp [Op.operands])]
  | unOp op t x => simp only [alight]; rw [he x (by simp [Op.operands])]
  | convert s d x => simp only [alight]; rw [he x (by simp [Op.operands])]
  | makeInterface t x => simp only [alight]; rw [he x (by simp [Op.operands])]
  | fieldAddr s x f => simp only [alight]; rw [he x (by simp [Op.operands])]
  | field s x f => simp only [alight]; rw [he x (by simp [Op.operands])]
  | indexAddr t x i => simp only [alight]; rw [he x (by simp [Op.operands]), he i (by simp [Op.operands])]
  | index t x i => simp only [alight]; rw [he x (by simp [Op.operands]), he i (by simp [Op.operands])]
  | extract t i => simp only [alight]; rw [he t (by simp [Op.operands])]
  | _ => rfl
theorem aalloc_congr {ev ev' : Operand → Value} (op : Op) (he : ∀ x ∈ op.operands.toList, ev x = ev' x) : aalloc P ev op = aalloc P ev' op := by
  cases op with
  | alloc e => rfl
  | box e x => simp only [aalloc]; rw [he x (by simp [Op.operands])]
  | buildSlice t len parts =>
    simp only [aalloc]
    have : ∀ l : List (Nat × Operand), (∀ p ∈ l, ev p.2 = ev' p.2) → l.map (fun p => (p.1, ev p.2)) = l.map fun p => (p.1, ev' p.2) := by
      intro l hl
      induction l with
      | nil => rfl
      | cons p l ih => simp only [List.map_cons]; rw [hl p List.mem_cons_self, ih fun q hq => hl q (List.mem_cons_of_mem _ hq)]
    rw [this parts.toList fun p hp => he _ (by simp only [Op.operands]; exact List.mem_map_of_mem hp)]
  | makeSlice t l c => simp only [aalloc]; rw [he l (by simp [Op.operands]), he c (by simp [Op.operands])]
  | _ => rfl
theorem call_args_mem {c : Call} {x : Operand} (h : x ∈ c.args.toList) : x ∈ (Op.call c).operands.toList := by
  simp only [Op.operands, Call.operands, Array.toList_append]
  exact List.mem_append_right _ h
theorem heavy_congr {R : Run} {ev ev' : Operand → Value} {h : AH} (op : Op) (he : ∀ x ∈ op.operands.toList, ev x = ev' x) : heavyStep P R ev h op = heavyStep P R ev' h op := by
  cases op with
  | store t a x => simp only [heavyStep]; rw [he a (by simp [Op.operands]), he x (by simp [Op.operands])]
  | call c =>
    have ha : c.args.toList.map ev = c.args.toList.map ev' := map_congr_ops _ fun x hx => he x (call_args_mem hx)
    obtain ⟨callee, args, argTypes⟩ := c
    cases callee with
    | builtin b => simp only [heavyStep]; simp only at ha; rw [ha]
    | value f =>
      have hf : ev f = ev' f := he f (by simp [Op.operands, Call.operands])
      simp only [heavyStep]; simp only at ha; rw [ha, hf]
    | invoke r m => rfl
  | _ => rfl
theorem light_congr {ev ev' : Operand → Value} {h : AH} (op : Op) (he : ∀ x ∈ op.operands.toList, ev x = ev' x) : lightVal P ev h op = lightVal P ev' h op := by
  cases op with
  | call c =>
    have ha : c.args.toList.map ev = c.args.toList.map ev' := map_congr_ops _ fun x hx => he x (call_args_mem hx)
    obtain ⟨callee, args, argTypes⟩ := c
    cases callee with
    | builtin b => simp only [lightVal]; simp only at ha; rw [ha]
    | _ => rfl
  | _ => exact alight_congr (P := P) (h := h) _ he

/-! ### More blocks -/
def Grows (g g' : AH) : Prop := ∀ i o, g.get i = some o → g'.get i = some o
theorem loadCells_grow {g g' : AH} (hg : Grows g g') {a : Addr} {n : Nat} {l : List Value} (h : loadCellsAt g a n = some l) : loadCellsAt g' a n = some l := by
  unfold loadCellsAt at h ⊢
  split at h
  · cases h
  · rename_i hs
    rw [if_neg hs]
    split at h
    · rename_i hb; rw [hg _ _ hb]; exact h
    · cases h
theorem aload_grow {g g' : AH} (hg : Grows g g') {t : TypeId} {a : Addr} {v : Value} (h : aload P g t a = some v) : aload P g' t a = some v := by
  unfold aload at h ⊢
  split at h
  · rename_i ht
    simp only [Option.map_eq_some_iff] at h
    obtain ⟨l, hl, rfl⟩ := h
    simp only [loadCells_grow hg hl, Option.map_some]
  · rename_i ht
    split at h
    · cases h
    · rename_i hs
      rw [if_neg hs]
      split at h
      · rename_i hb; rw [hg _ _ hb]; exact h
      · cases h
  · cases h
theorem aslice_grow {g g' : AH} (hg : Grows g g') {t : TypeId} {x : Value} {lo hi mx : Option Value} {v : Value} (h : aslice P g t x lo hi mx = some v) : aslice P g' t x lo hi mx = some v := by
  have he : ∀ i b, exactAt g i = some b → exactAt g' i = some b := by
    intro i b hb
    unfold exactAt at hb ⊢
    split at hb
    · rename_i hc; rw [hg _ _ hc]; exact hb
    · cases hb
  unfold aslice at h ⊢
  split at h
  · exact h
  · exact h
  · exact h
  · rename_i e a len cap hd
    split at h
    · cases h
    · rename_i hs
      rw [if_neg hs]
      split at h
      · split at h
        · split at h
          · split at h
            · rename_i hc
              rw [if_pos hc]
              split at h
              · rename_i hml
                rw [if_pos hml]
                split at h
                · rename_i hx; rw [he _ _ hx]; exact h
                · rename_i hx; rw [he _ _ hx]; exact h
                · cases h
              · rename_i hml
                rw [if_neg hml]; exact h
            · cases h
          · cases h
        · cases h
      · cases h
  · cases h
theorem lit_any {g g' : AH} {b : Builtin} (hb : litBuiltin b = true) (at_ : Array TypeId) (args : List Value) : (abuiltin P g b at_ args).map (·.1) = (abuiltin P g' b at_ args).map (·.1) := by
  cases b <;> simp only [litBuiltin] at hb <;> try cases hb
  · rcases args with _ | ⟨x, _ | ⟨y, l⟩⟩
    · rfl
    · simp only [abuiltin]
      split <;> (try split) <;> rfl
    · rfl
  · rcases args with _ | ⟨x, _ | ⟨y, _ | ⟨z, l⟩⟩⟩
    · rfl
    · cases x <;> rfl
    · cases x <;> cases y <;> rfl
    · cases x <;> cases y <;> rfl
  · rcases args with _ | ⟨x, _ | ⟨y, _ | ⟨z, l⟩⟩⟩
    · rfl
    · cases x <;> rfl
    · cases x <;> cases y <;> rfl
    · cases x <;> cases y <;> rfl
theorem light_grow {g g' : AH} (hg : Grows g g') {ev : Operand → Value} {op : Op} {v : Value} (h : lightVal P ev g op = some v) : lightVal P ev g' op = some v := by
  cases op with
  | call c =>
    obtain ⟨callee, args, argTypes⟩ := c
    cases callee with
    | builtin b =>
      simp only [lightVal] at h ⊢
      split at h
      · rename_i hb
        rw [if_pos hb, ← lit_any (g := g) hb]
        exact h
      · cases h
    | _ => simp [lightVal] at h
  | load t a =>
    simp only [lightVal, alight] at h ⊢
    split at h
    · exact aload_grow hg h
    · cases h
  | slice t x lo hi mx => simp only [lightVal, alight] at h ⊢; exact aslice_grow hg h
  | _ => first | exact h | (simp [lightVal, alight] at h)

/-! ### veq -/
mutual
theorem veq_eq : ∀ (a b : Value), veq a b = true → a = b
  | .bool a, b, h => by cases b <;> simp_all [veq]
  | .int j a, b, h => by cases b <;> simp_all [veq]
  | .float _ _, b, h => by simp [veq] at h
  | .complex _ _ _, b, h => by simp [veq] at h
  | .string a, b, h => by
    cases b <;> simp [veq] at h
    rename_i b
    obtain ⟨a⟩ := a
    obtain ⟨b⟩ := b
    have : a = b := eq_of_beq (show (a == b) = true from h)
    rw [this]
  | .pointer a, b, h => by cases b <;> simp_all [veq]
  | .slice a l c, b, h => by cases b <;> simp_all [veq]
  | .map a, b, h => by cases b <;> simp_all [veq]
  | .chan _, b, h => by simp [veq] at h
  | .func f x y, b, h => by
    cases b <;> simp [veq] at h
    rename_i g c d
    rw [h.1.1, veqA_eq x c h.1.2, veqA_eq y d h.2]
  | .nilFunc, b, h => by cases b <;> simp_all [veq]
  | .iface t v, b, h => by
    cases b <;> simp [veq] at h
    rename_i u w
    rw [h.1, veq_eq v w h.2]
  | .nilIface, b, h => by cases b <;> simp_all [veq]
  | .agg x, b, h => by
    cases b <;> simp [veq] at h
    rename_i c
    rw [veqA_eq x c h]
  | .tuple x, b, h => by
    cases b <;> simp [veq] at h
    rename_i c
    rw [veqA_eq x c h]
theorem veqA_eq : ∀ (a b : Array Value), veqA a b = true → a = b
  | ⟨l⟩, b, h => by
    simp only [veqA] at h
    have := veqL_eq l b.toList h
    cases b; simp at this; subst this; rfl
theorem veqL_eq : ∀ (l m : List Value), veqL l m = true → l = m
  | [], [], _ => rfl
  | [], _ :: _, h => by simp [veqL] at h
  | _ :: _, [], h => by simp [veqL] at h
  | a :: l, b :: m, h => by
    simp only [veqL, Bool.and_eq_true] at h
    rw [veq_eq a b h.1, veqL_eq l m h.2]
end

/-! ### What comes ahead of what -/
theorem flatMap_congr' {α β : Type} {f g : α → List β} : ∀ (l : List α), (∀ x ∈ l, f x = g x) → l.flatMap f = l.flatMap g
  | [], _ => rfl
  | x :: l, h => by simp only [List.flatMap_cons]; rw [h x List.mem_cons_self, flatMap_congr' l fun y hy => h y (List.mem_cons_of_mem _ hy)]
theorem predsOf_spec : ∀ (os : List Oper) (acc : List (List Nat)), (∀ k o, os[k]? = some o → ∀ j ∈ directs o, j < acc.length + k) →
    (∀ k, k < acc.length → (predsOf os acc)[k]? = acc[k]?) ∧
    ∀ k o, os[k]? = some o → (predsOf os acc)[acc.length + k]? = some (directs o ++ (directs o).flatMap fun j => (predsOf os acc).getD j [])
  | [], acc, _ => ⟨fun k _ => rfl, fun k o h => by simp at h⟩
  | o :: os, acc, hd => by
    have ih := predsOf_spec os (acc ++ [directs o ++ (directs o).flatMap fun j => acc.getD j []]) (by
      intro k o' ho' j hj
      have := hd (k + 1) o' (by simpa using ho') j hj
      simp only [List.length_append, List.length_cons, List.length_nil]; omega)
    have hpre : ∀ k, k < acc.length → (predsOf (o :: os) acc)[k]? = acc[k]? := by
      intro k hk
      simp only [predsOf]
      rw [ih.1 k (by simp; omega), List.getElem?_append_left hk]
    refine ⟨hpre, ?_⟩
    intro k o' ho'
    cases k with
    | zero =>
      simp at ho'; subst ho'
      simp only [predsOf, Nat.add_zero]
      rw [ih.1 acc.length (by simp)]
      rw [List.getElem?_append_right (Nat.le_refl _)]
      simp only [Nat.sub_self, List.getElem?_cons_zero, Option.some.injEq, List.append_cancel_left_eq]
      apply flatMap_congr'
      intro j hj
      have hlt : j < acc.length := by have := hd 0 o (by simp) j hj; omega
      have := hpre j hlt
      simp only [predsOf] at this
      rw [List.getD_eq_getElem?_getD, List.getD_eq_getElem?_getD, this]
    | succ k =>
      have := ih.2 k o' (by simpa using ho')
      simp only [predsOf]
      simp only [List.length_append, List.length_cons, List.length_nil] at this
      rw [show acc.length + (k + 1) = acc.length + (0 + 1) + k by omega]
      exact this

theorem preds_in {all : List Oper} (hd : ∀ k o, all[k]? = some o → ∀ j ∈ directs o, j < k) {D : List Nat} (hD : ∀ i ∈ D, ∀ o, all[i]? = some o → ∀ j ∈ directs o, j ∈ D) :
    ∀ (i : Nat) (o : Oper), all[i]? = some o → (∀ j ∈ directs o, j ∈ D) → ∀ j, ahead (predsOf all []) j i = true → j ∈ D := by
  intro i
  induction i using Nat.strongRecOn with
  | ind i ih =>
    intro o ho hdir j hj
    have hs := (predsOf_spec all [] (by simpa using hd)).2 i o ho
    simp only [List.length_nil, Nat.zero_add] at hs
    unfold ahead at hj
    rw [List.getD_eq_getElem?_getD, hs, Option.getD_some] at hj
    have hj : j ∈ directs o ++ (directs o).flatMap fun j => (predsOf all []).getD j [] := by simpa using hj
    rcases List.mem_append.1 hj with h1 | h1
    · exact hdir j h1
    · obtain ⟨j', hj', hjj⟩ := List.mem_flatMap.1 h1
      have hlt := hd i o ho j' hj'
      have hj'D := hdir j' hj'
      cases ho' : all[j']? with
      | none =>
        have := (List.getElem?_eq_some_iff.1 ho).1
        rw [List.getElem?_eq_none_iff] at ho'
        omega
      | some o' => exact ih j' hlt o' ho' (hD j' hj'D o' ho') j (by unfold ahead; simpa using hjj)

/-! ### The orders -/
def OrdFrom (all : List Oper) : List Nat → List Nat → Prop
  | D, [] => ∀ i, i < all.length → i ∈ D
  | D, i :: l => i < all.length ∧ i ∉ D ∧ (∀ o, all[i]? = some o → ∀ j ∈ directs o, j ∈ D) ∧ OrdFrom all (D ++ [i]) l
theorem mem_directs {o : Oper} {j : Nat} : j ∈ directs o ↔ ∃ e ∈ o.after, Region.binds .any e = true ∧ e.on = j := by
  unfold directs
  simp only [List.mem_map, List.mem_filter, Array.mem_toList_iff, and_assoc]
theorem linearise_ord {ops : Array Oper} (hd : ∀ k o, ops.toList[k]? = some o → ∀ j ∈ directs o, j < k) : ∀ (fuel t : Nat) (listed : Array Bool) (D : List Nat), listed.size = ops.size →
    (∀ i, i < ops.size → (listed.getD i false = true ↔ i ∈ D)) → ((List.range ops.size).filter fun i => decide (i ∉ D)).length ≤ fuel →
    OrdFrom ops.toList D (Region.linearise.go .any ops fuel t listed [])
  | 0, t, listed, D, hsz, hl, hf => by
    simp only [Region.linearise.go, List.reverse_nil, OrdFrom]
    intro i hi
    have h0 : (List.range ops.size).filter (fun i => decide (i ∉ D)) = [] := List.eq_nil_of_length_eq_zero (by omega)
    rcases Classical.em (i ∈ D) with h | h
    · exact h
    · have : i ∈ (List.range ops.size).filter fun i => decide (i ∉ D) := by simp [h]; simpa using hi
      rw [h0] at this; cases this
  | fuel + 1, t, listed, D, hsz, hl, hf => by
    simp only [Region.linearise.go]
    change OrdFrom ops.toList D (match (Region.ready .any ops listed)[t % (Region.ready .any ops listed).length]? with
      | some i => Region.linearise.go .any ops fuel (t / (Region.ready .any ops listed).length) (listed.setIfInBounds i true) [i]
      | none => [].reverse)
    have hgt : ∀ i, i < ops.size → (listed.getD i true = false ↔ i ∉ D) := by
      intro i hi
      have h1 := hl i hi
      have h2 : listed.getD i true = listed.getD i false := by simp [show i < listed.size by omega]
      rw [h2]
      cases hx : listed.getD i false
      · simp [← h1, hx]
      · simp [← h1, hx]
    cases hi : (Region.ready .any ops listed)[t % (Region.ready .any ops listed).length]? with
    | none =>
      have hnil : Region.ready .any ops listed = [] := by
        cases hr : Region.ready .any ops listed with
        | nil => rfl
        | cons x xs =>
          rw [hr] at hi
          have hlt : t % (x :: xs).length < (x :: xs).length := Nat.mod_lt _ (by simp)
          simp at hi
          simp at hlt
          omega
      simp only [List.reverse_nil, OrdFrom]
      intro i
      induction i using Nat.strongRecOn with
      | ind i ih =>
        intro hil
        rcases Classical.em (i ∈ D) with h | h
        · exact h
        · exfalso
          have hil' : i < ops.size := by simpa using hil
          have hr : i ∈ Region.ready .any ops listed := by
            rw [mem_ready]
            refine ⟨(hgt i hil').2 h, ops[i], Array.getElem?_eq_getElem hil', ?_⟩
            intro e he hb
            have hlt : e.on < i := hd i ops[i] (by simp [hil']) e.on (mem_directs.2 ⟨e, he, hb, rfl⟩)
            exact (hl e.on (by omega)).2 (ih e.on hlt (by simp; omega))
          rw [hnil] at hr; cases hr
    | some i =>
      simp only []
      rw [linearise_go_acc, List.reverse_singleton, List.singleton_append]
      have hmem := List.mem_of_getElem? hi
      rw [mem_ready] at hmem
      obtain ⟨h0, o, ho, hall⟩ := hmem
      have hlt : i < ops.size := (Array.getElem?_eq_some_iff.1 ho).1
      have hnD := (hgt i hlt).1 h0
      refine ⟨by simpa using hlt, hnD, ?_, ?_⟩
      · intro o' ho' j hj
        have : o' = o := by simp at ho'; rw [ho] at ho'; cases ho'; rfl
        subst this
        obtain ⟨e, he, hb, rfl⟩ := mem_directs.1 hj
        have hjl : e.on < i := hd i o' (by simpa using ho) e.on hj
        exact (hl e.on (by omega)).1 (hall e he hb)
      · refine linearise_ord hd fuel _ _ (D ++ [i]) (by simpa using hsz) ?_ ?_
        · intro j hj
          by_cases e : i = j
          · subst e; simp [show i < listed.size by omega]
          · rw [getD_set_ne false e, hl j hj]; simp [Ne.symm e]
        · have hsub : ((List.range ops.size).filter fun j => decide (j ∉ D ++ [i])) = (((List.range ops.size).filter fun j => decide (j ∉ D)).filter fun j => decide (j ≠ i)) := by
            rw [List.filter_filter]
            apply List.filter_congr
            intro j _
            simp only [List.mem_append, List.mem_singleton, not_or, ne_eq, Bool.decide_and]
            exact Bool.and_comm _ _
          rw [hsub]
          have : ((((List.range ops.size).filter fun j => decide (j ∉ D)).filter fun j => decide (j ≠ i)).length < ((List.range ops.size).filter fun j => decide (j ∉ D)).length) :=
            List.length_filter_lt_length_iff_exists.2 ⟨i, by simp [hnD]; exact hlt, by simp⟩
          omega

end Go.Ab
