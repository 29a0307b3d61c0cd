/- The abstract machine: regions that draw their order. -/
import Derived.Test.YtflmoocllahjnaaAb16
namespace Go.Ab
open Go.RowKit
variable {P : Program} {B : Nat} {K : FuncId → List Value → Option Value}

/-- From one to the next, numbers from 'N' on being kept for the region. -/
structure EvoN (P : Program) (B N : Nat) (ρ : Rho) (h : AH) (w : World) (ρ' : Rho) (h' : AH) (w' : World) : Prop where
  ext : Ext ρ ρ'
  inv : Inv P B ρ' h' w'
  un : ∀ i, i < N → ρ i = none → ρ' i = none
  keepU : ∀ i, i < N → ρ i = none → h'.get i = h.get i
  stay : ∀ i, i < N → h.get i = none → h'.get i = none
  frame : ∀ b, b < w.heap.size → (∀ i s, h.base ≤ i → (h.get i).isSome → ρ i ≠ some (b, s)) → w'.heap[b]? = w.heap[b]?
  range : ∀ i b s, h.base ≤ i → (h'.get i).isSome → ρ' i = some (b, s) → b < w.heap.size → ∃ j s', h.base ≤ j ∧ (h.get j).isSome ∧ ρ j = some (b, s')
  base : h'.base = h.base
  oldG : ∀ i, i < h.base → h'.get i = h.get i
  size : w.heap.size ≤ w'.heap.size
  os : w'.os = w.os
  out : w'.output = w.output
  tape : w'.tape = w.tape

theorem EvoN.evo {ρ ρ' : Rho} {h h' : AH} {w w' : World} (e : EvoN P B h.next ρ h w ρ' h' w') (hn : h.next ≤ h'.next) : Evo P B ρ h w ρ' h' w' :=
  { ext := e.ext, inv := e.inv, un := e.un, keepU := e.keepU, stay := e.stay, frame := e.frame, range := e.range, base := e.base, oldG := e.oldG, next := hn, size := e.size, os := e.os, out := e.out, tape := e.tape }
theorem EvoN.then {N : Nat} {ρ ρ1 ρ2 : Rho} {h h1 h2 : AH} {w w1 w2 : World} (a : EvoN P B N ρ h w ρ1 h1 w1) (b : Evo P B ρ1 h1 w1 ρ2 h2 w2) (hN : N ≤ h1.next) : EvoN P B N ρ h w ρ2 h2 w2 where
  ext := a.ext.trans b.ext
  inv := b.inv
  un := fun i hi hn => b.un i (Nat.lt_of_lt_of_le hi hN) (a.un i hi hn)
  keepU := fun i hi hn => (b.keepU i (Nat.lt_of_lt_of_le hi hN) (a.un i hi hn)).trans (a.keepU i hi hn)
  stay := fun i hi hn => b.stay i (Nat.lt_of_lt_of_le hi hN) (a.stay i hi hn)
  frame := fun x hx hn => by
    refine (b.frame x (Nat.lt_of_lt_of_le hx a.size) ?_).trans (a.frame x hx hn)
    intro i s hb hl he
    rw [a.base] at hb
    obtain ⟨j, s', hj1, hj2, hj3⟩ := a.range i x s hb hl he hx
    exact hn j s' hj1 hj2 hj3
  range := fun i x s hb hl he hx => by
    obtain ⟨j, s', hj1, hj2, hj3⟩ := b.range i x s (by rw [a.base]; exact hb) hl he (Nat.lt_of_lt_of_le hx a.size)
    rw [a.base] at hj1
    exact a.range j x s' hj1 hj2 hj3 hx
  base := b.base.trans a.base
  oldG := fun i hi => (b.oldG i (by rw [a.base]; exact hi)).trans (a.oldG i hi)
  size := Nat.le_trans a.size b.size
  os := b.os.trans a.os
  out := b.out.trans a.out
  tape := b.tape.trans a.tape

/-- a number that was kept is given a block -/
theorem evoN_map {N : Nat} {ρ0 ρ : Rho} {h0 g : AH} {w0 w w' : World} (e : EvoN P B N ρ0 h0 w0 ρ g w) {i : Nat} {o' : Obj} (hN : N ≤ i) (hlt : i < g.next) (hb : h0.base ≤ i) (hB : B ≤ w0.heap.size) (hn : ρ i = none)
    (hheap : w'.heap = w.heap.push o') (hos : w'.os = w.os) (hout : w'.output = w.output) (htape : w'.tape = w.tape) (hrel : ∀ o, g.get i = some o → BRel P (upd ρ i (w.heap.size, 0)) 0 o o') :
    EvoN P B N ρ0 h0 w0 (upd ρ i (w.heap.size, 0)) g w' := by
  have hext : Ext ρ (upd ρ i (w.heap.size, 0)) := Ext.upd hn
  have hi := e.inv
  have hlive : ∀ j b s, (g.get j).isSome → ρ j = some (b, s) → b < w.heap.size := fun j b s hj hr => by
    obtain ⟨o, ho⟩ := Option.isSome_iff_exists.1 hj
    obtain ⟨o2, h2, _⟩ := hi.blk j o ho b s hr
    exact (Array.getElem?_eq_some_iff.1 h2).1
  have hglob : ∀ k, k < P.globals.size → k ≠ i := fun k hk hki => by
    have := hi.glob k hk
    rw [hki, hn] at this; cases this
  refine { ext := e.ext.trans hext, inv := ?_, un := ?_, keepU := fun j hj hr => e.keepU j hj hr, stay := e.stay, frame := ?_, range := ?_, base := e.base, oldG := e.oldG, size := by rw [hheap]; simp; exact Nat.le_succ_of_le e.size, os := hos.trans e.os, out := hout.trans e.out, tape := htape.trans e.tape }
  · refine { blk := ?_, inj := ?_, low := ?_, old := ?_, fresh := ?_, freshG := hi.freshG, glob := ?_, size := by rw [hheap]; simp; exact Nat.le_succ_of_le hi.size, bn := hi.bn }
    · intro j o hg b s hr
      by_cases ej : j = i
      · subst ej
        rw [upd_same] at hr; cases hr
        exact ⟨o', by rw [hheap]; simp, hrel o hg⟩
      · rw [upd_other ej] at hr
        obtain ⟨o2, h2, h3⟩ := hi.blk j o hg b s hr
        refine ⟨o2, ?_, h3.mono hext⟩
        have := (Array.getElem?_eq_some_iff.1 h2).1
        rw [hheap, Array.getElem?_push, if_neg (by omega)]; exact h2
    · intro j k b sj sk hj hk gj gk rj rk
      by_cases ej : j = i
      · by_cases ek : k = i
        · rw [ej, ek]
        · rw [upd_other ek] at rk
          have := hlive k b sk gk rk
          subst ej; rw [upd_same] at rj; cases rj; omega
      · rw [upd_other ej] at rj
        by_cases ek : k = i
        · have := hlive j b sj gj rj
          subst ek; rw [upd_same] at rk; cases rk; omega
        · rw [upd_other ek] at rk
          exact hi.inj j k b sj sk hj hk gj gk rj rk
    · intro j b s hj gj rj
      by_cases ej : j = i
      · subst ej; rw [upd_same] at rj; cases rj; exact Nat.le_trans hB e.size
      · rw [upd_other ej] at rj; exact hi.low j b s hj gj rj
    · intro j b s hj rj
      rw [e.base] at hj
      rw [upd_other (by omega)] at rj
      exact hi.old j b s (by rw [e.base]; exact hj) rj
    · intro j hj
      rw [upd_other (by omega)]
      exact hi.fresh j hj
    · intro k hk
      rw [upd_other (hglob k hk)]
      exact hi.glob k hk
  · intro j hj hr
    rw [upd_other (by omega)]
    exact e.un j hj hr
  · intro b hlt' hno
    rw [hheap, Array.getElem?_push, if_neg (by have := e.size; omega)]
    exact e.frame b hlt' hno
  · intro j b s hj gj rj hlt'
    by_cases ej : j = i
    · subst ej; rw [upd_same] at rj; cases rj; have := e.size; omega
    · rw [upd_other ej] at rj; exact e.range j b s hj gj rj hlt'

/-- a number that was kept comes up in the text's order -/
theorem evoN_reveal {N : Nat} {ρ0 ρ : Rho} {h0 g : AH} {w0 w : World} (e : EvoN P B N ρ0 h0 w0 ρ g w) {i : Nat} {o : Blk} (hN : N ≤ i) (hlt : i < g.next) (hb : h0.base ≤ i) (hB : B ≤ w0.heap.size)
    (hrel : ∀ b s, ρ i = some (b, s) → ∃ o', w.heap[b]? = some o' ∧ BRel P ρ s o o')
    (hno : ∀ b s, ρ i = some (b, s) → w0.heap.size ≤ b ∧ ∀ j s', h0.base ≤ j → (g.get j).isSome → ρ j = some (b, s') → j = i) :
    EvoN P B N ρ0 h0 w0 ρ (g.set i (some o)) w := by
  have hi := e.inv
  have hgb : g.base ≤ i := by rw [e.base]; exact hb
  have hget : ∀ j, (g.set i (some o)).get j = if j = i then some o else g.get j := fun j => AH.get_set hgb
  have hcase : ∀ j, ((g.set i (some o)).get j).isSome → j = i ∨ (g.get j).isSome := fun j hj => by
    rw [hget] at hj
    by_cases ej : j = i
    · exact .inl ej
    · rw [if_neg ej] at hj; exact .inr hj
  refine { ext := e.ext, inv := ?_, un := e.un, keepU := ?_, stay := fun j hj hn => by rw [hget, if_neg (by omega)]; exact e.stay j hj hn, frame := e.frame, range := ?_, base := by simp; exact e.base, oldG := ?_, size := e.size, os := e.os, out := e.out, tape := e.tape }
  · refine { blk := ?_, inj := ?_, low := ?_, old := ?_, fresh := ?_, freshG := ?_, glob := hi.glob, size := hi.size, bn := by simp; exact hi.bn }
    · intro j oj gj b s rj
      rw [hget] at gj
      by_cases ej : j = i
      · subst ej; rw [if_pos rfl] at gj; cases gj; exact hrel b s rj
      · rw [if_neg ej] at gj; exact hi.blk j oj gj b s rj
    · intro j k b sj sk hj hk gj gk rj rk
      simp at hj hk
      rcases hcase j gj with ej | gj'
      · rcases hcase k gk with ek | gk'
        · rw [ej, ek]
        · subst ej; rw [e.base] at hk; exact ((hno b sj rj).2 k sk hk gk' rk).symm
      · rcases hcase k gk with ek | gk'
        · subst ek; rw [e.base] at hj; exact (hno b sk rk).2 j sj hj gj' rj
        · exact hi.inj j k b sj sk hj hk gj' gk' rj rk
    · intro j b s hj gj rj
      simp at hj
      rcases hcase j gj with ej | gj'
      · subst ej; exact Nat.le_trans hB (hno b s rj).1
      · exact hi.low j b s hj gj' rj
    · intro j b s hj rj
      simp at hj
      exact hi.old j b s hj rj
    · intro j hj
      simp at hj
      exact hi.fresh j hj
    · intro j hj
      simp at hj
      rw [hget, if_neg (by omega)]
      exact hi.freshG j hj
  · intro j hj hr
    rw [hget, if_neg (by omega)]
    exact e.keepU j hj hr
  · intro j b s hj gj rj hlt'
    rcases hcase j gj with ej | gj'
    · subst ej; have := (hno b s rj).1; omega
    · exact e.range j b s hj gj' rj hlt'
  · intro j hj
    rw [hget, if_neg (by omega)]
    exact e.oldG j hj

/-! ### The trace of the text's order -/
theorem text_trace {R : Run} {all : List Oper} {r0 : Nat} : ∀ (os : List Oper) (i : Nat) (env : List Value) (h : AH) (rs : List Rec) (e : List Value) (hN : AH), drawText P R all r0 i os env h = some (rs, e, hN) →
    ∃ (E : Nat → List Value) (H : Nat → AH) (V : Nat → Value), E 0 = env ∧ H 0 = h ∧
      (∀ j o, os[j]? = some o → drawStep P R all r0 (i + j) (E j) (H j) o = some (V j, H (j + 1)) ∧ E (j + 1) = aput (E j) o.dst (V j)) ∧
      E os.length = e ∧ H os.length = hN ∧ ∀ j, j < os.length → rs[j]? = some ⟨E j, H j, V j⟩
  | [], i, env, h, rs, e, hN, ht => by
    simp only [drawText, Option.some.injEq, Prod.mk.injEq] at ht
    obtain ⟨rfl, rfl, rfl⟩ := ht
    exact ⟨fun _ => env, fun _ => h, fun _ => undef, rfl, rfl, fun j o hj => by simp at hj, rfl, rfl, fun j hj => by simp at hj⟩
  | o :: os, i, env, h, rs, e, hN, ht => by
    simp only [drawText] at ht
    split at ht
    · rename_i v h' hs
      split at ht
      · rename_i rs' e' ht'
        simp only [Option.some.injEq, Prod.mk.injEq] at ht
        obtain ⟨rfl, rfl⟩ := ht
        obtain ⟨E, H, V, h1, h2, h3, h4, h5, h6⟩ := text_trace os (i + 1) (aput env o.dst v) h' rs' e hN ht'
        refine ⟨fun j => match j with | 0 => env | j + 1 => E j, fun j => match j with | 0 => h | j + 1 => H j, fun j => match j with | 0 => v | j + 1 => V j, rfl, rfl, ?_, h4, h5, ?_⟩
        · intro j o' hj
          cases j with
          | zero =>
            simp at hj; subst hj
            simp only [Nat.add_zero]
            exact ⟨by rw [h2]; exact hs, h1⟩
          | succ j =>
            have := h3 j o' (by simpa using hj)
            rw [show i + (j + 1) = i + 1 + j by omega]
            exact this
        · intro j hj
          cases j with
          | zero => rfl
          | succ j => simpa using h6 j (by simpa using hj)
      · cases ht
    · cases ht

/-! ### The frame, whatever was done -/
def EnvD (all : List Oper) (V : Nat → Value) (e : List Value) (D : List Nat) : List Value := D.foldl (fun e i => aput e ((all[i]?).bind (·.dst)) (V i)) e
theorem aput_len {e : List Value} {d : Option Tmp} {v : Value} : (aput e d v).length = e.length := by cases d <;> simp [aput]
theorem aput_get {e : List Value} {d : Option Tmp} {v : Value} {t : Nat} : (aput e d v)[t]? = if d = some t then (if t < e.length then some v else none) else e[t]? := by
  cases d with
  | none => simp [aput]
  | some d =>
    simp only [aput, Option.some.injEq, List.getElem?_set]
    by_cases h : d = t
    · subst h; simp
    · simp [h]
theorem EnvD_len {all : List Oper} {V : Nat → Value} : ∀ (D : List Nat) (e : List Value), (EnvD all V e D).length = e.length
  | [], e => rfl
  | i :: D, e => by
    show (EnvD all V (aput e _ (V i)) D).length = _
    rw [EnvD_len D, aput_len]
theorem EnvD_out {all : List Oper} {V : Nat → Value} {t : Nat} : ∀ (D : List Nat) (e : List Value), (∀ i ∈ D, (all[i]?).bind (·.dst) ≠ some t) → (EnvD all V e D)[t]? = e[t]?
  | [], e, _ => rfl
  | i :: D, e, h => by
    show (EnvD all V (aput e _ (V i)) D)[t]? = _
    rw [EnvD_out D _ fun j hj => h j (List.mem_cons_of_mem _ hj), aput_get, if_neg (h i List.mem_cons_self)]
theorem EnvD_in {all : List Oper} {V : Nat → Value} {t j : Nat} (hj : (all[j]?).bind (·.dst) = some t) (hu : ∀ i, (all[i]?).bind (·.dst) = some t → i = j) : ∀ (D : List Nat) (e : List Value), j ∈ D → (EnvD all V e D)[t]? = if t < e.length then some (V j) else none
  | [], e, h => by cases h
  | i :: D, e, h => by
    show (EnvD all V (aput e _ (V i)) D)[t]? = _
    by_cases hD : j ∈ D
    · rw [EnvD_in hj hu D _ hD, aput_len]
    · have hij : i = j := by rcases List.mem_cons.1 h with h1 | h1; exact h1.symm; exact absurd h1 hD
      subst hij
      rw [EnvD_out D _ fun k hk hkt => hD (hu k hkt ▸ hk), aput_get, if_pos hj]
theorem EnvD_same {all : List Oper} {V : Nat → Value} {t : Nat} {e : List Value} (hu : ∀ i j : Nat, (all[i]?).bind (·.dst) = some t → (all[j]?).bind (·.dst) = some t → i = j) {D D' : List Nat}
    (hs : ∀ j : Nat, (all[j]?).bind (·.dst) = some t → (j ∈ D ↔ j ∈ D')) : (EnvD all V e D)[t]? = (EnvD all V e D')[t]? := by
  rcases Classical.em (∃ j, j ∈ D ∧ (all[j]?).bind (·.dst) = some t) with ⟨j, hj, ht⟩ | hno
  · rw [EnvD_in ht (fun i hi => hu i j hi ht) D e hj, EnvD_in ht (fun i hi => hu i j hi ht) D' e ((hs j ht).1 hj)]
  · rw [EnvD_out D e fun i hi hit => hno ⟨i, hi, hit⟩, EnvD_out D' e fun i hi hit => hno ⟨i, (hs i hit).2 hi, hit⟩]
theorem EnvD_snoc {all : List Oper} {V : Nat → Value} {e : List Value} {D : List Nat} {i : Nat} : EnvD all V e (D ++ [i]) = aput (EnvD all V e D) ((all[i]?).bind (·.dst)) (V i) := by
  unfold EnvD; rw [List.foldl_append]; rfl

end Go.Ab
