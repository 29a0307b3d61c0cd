/- The abstract machine: its operations are the model's (memory). -/
import Derived.Test.YtflmoocllahjnaaAb3
namespace Go.Ab
open Go.RowKit
variable {P : Program} {B : Nat} {ρ : Rho} {h : AH} {w : World}

def upd (ρ : Rho) (i : Nat) (x : Nat × Nat) : Rho := fun j => if j = i then some x else ρ j
theorem upd_same {i : Nat} {x : Nat × Nat} : upd ρ i x i = some x := by simp [upd]
theorem upd_other {i j : Nat} {x : Nat × Nat} (h : j ≠ i) : upd ρ i x j = ρ j := by simp [upd, h]
theorem Ext.upd {i : Nat} {x : Nat × Nat} (h : ρ i = none) : Ext ρ (upd ρ i x) := by
  intro j y hy
  by_cases e : j = i
  · subst e; rw [h] at hy; cases hy
  · rw [upd_other e]; exact hy

/-- A new block. -/
theorem evo_alloc (hi : Inv P B ρ h w) {o : Blk} {o' : Obj} {s : Nat} {w' : World} (hb : BRel P (upd ρ h.next (w.heap.size, s)) s o o')
    (hheap : w'.heap = w.heap.push o') (hos : w'.os = w.os) (hout : w'.output = w.output) (htape : w'.tape = w.tape) :
    Evo P B ρ h w (upd ρ h.next (w.heap.size, s)) (h.alloc o) w' := by
  have hext : Ext ρ (upd ρ h.next (w.heap.size, s)) := Ext.upd (hi.fresh _ (Nat.le_refl _))
  have hget : ∀ j, (h.alloc o).get j = if j = h.next then some o else h.get j := fun j => AH.get_alloc hi.bn
  have hlt : ∀ i b s', ρ i = some (b, s') → i < h.next := fun i b s' hr => by
    rcases Nat.lt_or_ge i h.next with h1 | h1
    · exact h1
    · rw [hi.fresh i h1] at hr; cases hr
  refine { ext := hext, inv := ?_, un := ?_, keepU := ?_, stay := fun j hj hn => by rw [hget, if_neg (by omega)]; exact hn, frame := ?_, range := ?_, base := rfl, oldG := ?_, next := by simp, size := by rw [hheap]; simp, os := hos, out := hout, tape := htape }
  · refine { blk := ?_, inj := ?_, low := ?_, old := ?_, fresh := ?_, freshG := ?_, glob := ?_, size := by rw [hheap]; simp; exact Nat.le_succ_of_le hi.size, bn := Nat.le_succ_of_le hi.bn }
    · intro i o1 hg b s1 hr
      rw [hget] at hg
      by_cases e : i = h.next
      · subst e
        rw [if_pos rfl] at hg; cases hg
        rw [upd_same] at hr; cases hr
        exact ⟨o', by rw [hheap]; simp, hb⟩
      · rw [if_neg e] at hg
        rw [upd_other e] at hr
        obtain ⟨o2, h2, h3⟩ := hi.blk i o1 hg b s1 hr
        refine ⟨o2, ?_, h3.mono hext⟩
        rw [hheap, Array.getElem?_push]
        have := (Array.getElem?_eq_some_iff.1 h2).1
        rw [if_neg (by omega)]; exact h2
    · intro i j b si sj hbi hbj gi gj ri rj
      rw [hget] at gi gj
      by_cases e : i = h.next
      · by_cases e' : j = h.next
        · rw [e, e']
        · rw [if_neg e'] at gj
          rw [upd_other e'] at rj
          obtain ⟨oj, hoj⟩ := Option.isSome_iff_exists.1 gj
          obtain ⟨o2, h2, _⟩ := hi.blk j oj hoj b sj rj
          subst e
          rw [upd_same] at ri; cases ri
          have := (Array.getElem?_eq_some_iff.1 h2).1
          omega
      · rw [if_neg e] at gi
        rw [upd_other e] at ri
        by_cases e' : j = h.next
        · obtain ⟨oi, hoi⟩ := Option.isSome_iff_exists.1 gi
          obtain ⟨o2, h2, _⟩ := hi.blk i oi hoi b si ri
          subst e'
          rw [upd_same] at rj; cases rj
          have := (Array.getElem?_eq_some_iff.1 h2).1
          omega
        · rw [if_neg e'] at gj
          rw [upd_other e'] at rj
          exact hi.inj i j b si sj hbi hbj gi gj ri rj
    · intro i b s1 hbi gi ri
      rw [hget] at gi
      by_cases e : i = h.next
      · subst e; rw [upd_same] at ri; cases ri; exact hi.size
      · rw [if_neg e] at gi; rw [upd_other e] at ri
        exact hi.low i b s1 hbi gi ri
    · intro i b s1 hbi ri
      have e : i ≠ h.next := fun e => by have := hi.bn; simp at hbi; omega
      rw [upd_other e] at ri
      exact hi.old i b s1 hbi ri
    · intro i hn
      simp at hn
      rw [upd_other (by omega)]
      exact hi.fresh i (by omega)
    · intro i hn
      simp at hn
      rw [hget, if_neg (by omega)]
      exact hi.freshG i (by omega)
    · intro g hg
      have := hi.glob g hg
      exact hext _ _ this
  · intro i hn hr
    rw [upd_other (by omega)]; exact hr
  · intro i hn hr
    rw [hget, if_neg (by omega)]
  · intro b hb' _
    rw [hheap, Array.getElem?_push, if_neg (by omega)]
  · intro i b s1 hbi gi ri hlt'
    rw [hget] at gi
    by_cases e : i = h.next
    · subst e; rw [upd_same] at ri; cases ri; omega
    · rw [if_neg e] at gi; rw [upd_other e] at ri
      exact ⟨i, s1, hbi, gi, ri⟩
  · intro i hn
    rw [hget, if_neg (by have := hi.bn; omega)]

/-- A block that is written. -/
theorem evo_set (hi : Inv P B ρ h w) {i b s : Nat} {o0 o : Blk} {o' : Obj} {w' : World} (hbi : h.base ≤ i) (hg : h.get i = some o0) (hr : ρ i = some (b, s)) (hb : BRel P ρ s o o')
    (hheap : w'.heap = w.heap.setIfInBounds b o') (hos : w'.os = w.os) (hout : w'.output = w.output) (htape : w'.tape = w.tape) :
    Evo P B ρ h w ρ (h.set i (some o)) w' := by
  have hget : ∀ j, (h.set i (some o)).get j = if j = i then some o else h.get j := fun j => AH.get_set hbi
  have hsome : ∀ j, ((h.set i (some o)).get j).isSome → (h.get j).isSome := fun j hj => by
    rw [hget] at hj
    by_cases e : j = i
    · rw [e, hg]; rfl
    · rw [if_neg e] at hj; exact hj
  obtain ⟨ob, hob, _⟩ := hi.blk i o0 hg b s hr
  have hbl : b < w.heap.size := (Array.getElem?_eq_some_iff.1 hob).1
  have hin : i < h.next := by
    rcases Nat.lt_or_ge i h.next with h1 | h1
    · exact h1
    · rw [hi.freshG i h1] at hg; cases hg
  refine { ext := Ext.refl _, inv := ?_, un := fun _ _ h => h, keepU := ?_, stay := fun j hj hn => by rw [hget, if_neg (by intro e; subst e; rw [hg] at hn; cases hn)]; exact hn, frame := ?_, range := ?_, base := AH.set_base, oldG := ?_, next := by simp, size := by rw [hheap]; simp, os := hos, out := hout, tape := htape }
  · refine { blk := ?_, inj := ?_, low := ?_, old := ?_, fresh := ?_, freshG := ?_, glob := hi.glob, size := by rw [hheap]; simp; exact hi.size, bn := by simp; exact hi.bn }
    · intro j oj gj bj sj rj
      rw [hget] at gj
      by_cases e : j = i
      · subst e
        rw [if_pos rfl] at gj; cases gj
        rw [hr] at rj; cases rj
        exact ⟨o', by rw [hheap]; simp [hbl], hb⟩
      · rw [if_neg e] at gj
        obtain ⟨o2, h2, h3⟩ := hi.blk j oj gj bj sj rj
        refine ⟨o2, ?_, h3⟩
        have hne : b ≠ bj := by
          intro hbb
          subst hbb
          rcases Nat.lt_or_ge j h.base with h4 | h4
          · have := hi.old j b sj h4 rj
            have := hi.low i b s hbi (by rw [hg]; rfl) hr
            omega
          · exact e (hi.inj j i b sj s h4 hbi (by rw [gj]; rfl) (by rw [hg]; rfl) rj hr)
        rw [hheap, Array.getElem?_setIfInBounds_ne hne]
        exact h2
    · intro j k bb sj sk hj hk gj gk rj rk
      simp at hj hk
      exact hi.inj j k bb sj sk hj hk (hsome j gj) (hsome k gk) rj rk
    · intro j bb sj hj gj rj
      simp at hj
      exact hi.low j bb sj hj (hsome j gj) rj
    · intro j bb sj hj rj
      simp at hj
      exact hi.old j bb sj hj rj
    · intro j hj
      simp at hj
      exact hi.fresh j hj
    · intro j hj
      simp at hj
      rw [hget, if_neg (by omega)]
      exact hi.freshG j hj
  · intro j hj hn
    rw [hget, if_neg]
    intro e; subst e; rw [hr] at hn; cases hn
  · intro bb hbb hno
    have hne : b ≠ bb := fun e => hno i s hbi (by rw [hg]; rfl) (by rw [← e]; exact hr)
    rw [hheap, Array.getElem?_setIfInBounds_ne hne]
  · intro j bb sj hj gj rj _
    exact ⟨j, sj, hj, hsome j gj, rj⟩
  · intro j hj
    rw [hget, if_neg (by omega)]

/-- A block that is written and goes by a new number. -/
theorem evo_move (hi : Inv P B ρ h w) {i b s s' : Nat} {o0 o : Blk} {o' : Obj} {w' : World} (hbi : h.base ≤ i) (hg : h.get i = some o0) (hr : ρ i = some (b, s)) (hb : BRel P (upd ρ h.next (b, s')) s' o o')
    (hheap : w'.heap = w.heap.setIfInBounds b o') (hos : w'.os = w.os) (hout : w'.output = w.output) (htape : w'.tape = w.tape) :
    Evo P B ρ h w (upd ρ h.next (b, s')) ((h.set i none).alloc o) w' := by
  have hext : Ext ρ (upd ρ h.next (b, s')) := Ext.upd (hi.fresh _ (Nat.le_refl _))
  have hget : ∀ j, ((h.set i none).alloc o).get j = if j = h.next then some o else if j = i then none else h.get j := fun j => by
    rw [AH.get_alloc (by simp; exact hi.bn), AH.get_set hbi]; simp
  obtain ⟨ob, hob, _⟩ := hi.blk i o0 hg b s hr
  have hbl : b < w.heap.size := (Array.getElem?_eq_some_iff.1 hob).1
  have hin : i < h.next := by
    rcases Nat.lt_or_ge i h.next with h1 | h1
    · exact h1
    · rw [hi.freshG i h1] at hg; cases hg
  have hbB := hi.low i b s hbi (by rw [hg]; rfl) hr
  have key : ∀ j bj sj, j ≠ h.next → ((h.set i none).alloc o).get j ≠ none → ρ j = some (bj, sj) → (h.get j).isSome ∧ j ≠ i ∧ b ≠ bj := by
    intro j bj sj e gj rj
    rw [hget, if_neg e] at gj
    by_cases e' : j = i
    · rw [if_pos e'] at gj; exact absurd rfl gj
    · rw [if_neg e'] at gj
      have hs : (h.get j).isSome := by cases hh : h.get j with | none => exact absurd hh gj | some _ => rfl
      refine ⟨hs, e', ?_⟩
      intro hbb
      subst hbb
      rcases Nat.lt_or_ge j h.base with h4 | h4
      · have := hi.old j b sj h4 rj
        omega
      · exact e' (hi.inj j i b sj s h4 hbi hs (by rw [hg]; rfl) rj hr)
  refine { ext := hext, inv := ?_, un := ?_, keepU := ?_, stay := fun j hj hn => by rw [hget, if_neg (by omega)]; split; rfl; exact hn, frame := ?_, range := ?_, base := by simp, oldG := ?_, next := by simp, size := by rw [hheap]; simp, os := hos, out := hout, tape := htape }
  · refine { blk := ?_, inj := ?_, low := ?_, old := ?_, fresh := ?_, freshG := ?_, glob := fun g hg' => hext _ _ (hi.glob g hg'), size := by rw [hheap]; simp; exact hi.size, bn := by simp; exact Nat.le_succ_of_le hi.bn }
    · intro j oj gj bj sj rj
      by_cases e : j = h.next
      · subst e
        rw [hget, if_pos rfl] at gj; cases gj
        rw [upd_same] at rj; cases rj
        exact ⟨o', by rw [hheap]; simp [hbl], hb⟩
      · rw [upd_other e] at rj
        obtain ⟨_, e', hne⟩ := key j bj sj e (by rw [gj]; simp) rj
        rw [hget, if_neg e, if_neg e'] at gj
        obtain ⟨o2, h2, h3⟩ := hi.blk j oj gj bj sj rj
        exact ⟨o2, by rw [hheap, Array.getElem?_setIfInBounds_ne hne]; exact h2, h3.mono hext⟩
    · intro j k bb sj sk hj hk gj gk rj rk
      simp at hj hk
      by_cases e : j = h.next
      · by_cases e2 : k = h.next
        · rw [e, e2]
        · rw [upd_other e2] at rk
          obtain ⟨_, _, hne⟩ := key k bb sk e2 (by intro hh; rw [hh] at gk; cases gk) rk
          subst e; rw [upd_same] at rj; cases rj; exact absurd rfl hne
      · rw [upd_other e] at rj
        obtain ⟨s1, _, hne⟩ := key j bb sj e (by intro hh; rw [hh] at gj; cases gj) rj
        by_cases e2 : k = h.next
        · subst e2; rw [upd_same] at rk; cases rk; exact absurd rfl hne
        · rw [upd_other e2] at rk
          obtain ⟨s2, _, _⟩ := key k bb sk e2 (by intro hh; rw [hh] at gk; cases gk) rk
          exact hi.inj j k bb sj sk hj hk s1 s2 rj rk
    · intro j bb sj hj gj rj
      simp at hj
      by_cases e : j = h.next
      · subst e; rw [upd_same] at rj; cases rj; exact hbB
      · rw [upd_other e] at rj
        obtain ⟨s1, _, _⟩ := key j bb sj e (by intro hh; rw [hh] at gj; cases gj) rj
        exact hi.low j bb sj hj s1 rj
    · intro j bb sj hj rj
      simp at hj
      have e : j ≠ h.next := by have := hi.bn; omega
      rw [upd_other e] at rj
      exact hi.old j bb sj hj rj
    · intro j hj
      simp at hj
      rw [upd_other (by omega)]
      exact hi.fresh j (by omega)
    · intro j hj
      simp at hj
      rw [hget, if_neg (by omega), if_neg (by omega)]
      exact hi.freshG j (by omega)
  · intro j hj hn
    rw [upd_other (by omega)]; exact hn
  · intro j hj hn
    rw [hget, if_neg (by omega), if_neg]
    intro e; subst e; rw [hr] at hn; cases hn
  · intro bb hbb hno
    have hne : b ≠ bb := fun e => hno i s hbi (by rw [hg]; rfl) (by rw [← e]; exact hr)
    rw [hheap, Array.getElem?_setIfInBounds_ne hne]
  · intro j bb sj hj gj rj _
    by_cases e : j = h.next
    · subst e; rw [upd_same] at rj; cases rj
      exact ⟨i, s, hbi, by rw [hg]; rfl, hr⟩
    · rw [upd_other e] at rj
      obtain ⟨s1, _, _⟩ := key j bb sj e (by intro hh; rw [hh] at gj; cases gj) rj
      exact ⟨j, sj, hj, s1, rj⟩
  · intro j hj
    have := hi.bn
    rw [hget, if_neg (by omega), if_neg (by omega)]

/-! ### Cells -/
theorem add_none (b o n : Nat) : Addr.add ⟨b, o, none⟩ n = ⟨b, o + n, none⟩ := by
  unfold Addr.add
  split
  · rename_i h; subst h; rfl
  · rfl
theorem cell_of_block {b e o : Nat} {c : Array Value} {fz : Nat × Nat} (hb : w.heap[b]? = some (.cells c e fz)) : w.cell? ⟨b, o, none⟩ = c[o]? := by
  simp [World.cell?, hb]
theorem loadCells_run (hi : Inv P B ρ h w) {a : Addr} {b s n : Nat} {l : List Value} (hr : ρ a.block = some (b, s)) (hl : loadCellsAt h a n = some l) :
    ∃ l', (loadCells ⟨b, a.off, none⟩ n).run P w = .ok ⟨l'⟩ w ∧ LRel ρ l l' ∧ a.spot = none ∧ l.length = n := by
  unfold loadCellsAt at hl
  cases hs : a.spot with
  | some x => simp [hs] at hl
  | none =>
    simp only [hs, Option.isSome_none, Bool.false_eq_true, if_false] at hl
    split at hl
    · rename_i c e fz x hg
      split at hl
      · rename_i hle
        cases hl
        obtain ⟨o', ho, c', rfl, hc, hsz, _⟩ := hi.blk _ _ hg b s hr
        have hlen := hc.length
        refine ⟨((c'.toList.take c.length).drop a.off).take n, ?_, (hc.drop _).take _, rfl, by simp; omega⟩
        have hn : (((c'.toList.take c.length).drop a.off).take n).length = n := by
          have := ((hc.drop a.off).take n).length
          rw [this]; simp; omega
        have := run_loadCells_list (P := P) (w := w) ⟨b, a.off, none⟩ (((c'.toList.take c.length).drop a.off).take n) (fun j v hj => by
          rw [add_none, cell_of_block ho]
          rw [List.getElem?_take] at hj
          split at hj
          · rw [List.getElem?_drop, List.getElem?_take] at hj
            split at hj
            · simpa using hj
            · cases hj
          · cases hj)
        rw [hn] at this
        exact this
      · cases hl
    · cases hl

theorem storeCells_run {b e : Nat} {fz : Nat × Nat} (hfz : fz.2 = 0) : ∀ (vs : List Value) (w : World) (c : Array Value) (off i : Nat), w.heap[b]? = some (.cells c e fz) → (∀ v ∈ vs, v.oneCell' = true) → off + i + vs.length ≤ c.size →
    ∃ w', (storeCells ⟨b, off, none⟩ vs i).run P w = .ok () w' ∧ w'.heap = w.heap.setIfInBounds b (.cells ⟨splice c.toList (off + i) vs⟩ e fz) ∧ w'.os = w.os ∧ w'.output = w.output ∧ w'.tape = w.tape
  | [], w, c, off, i, hb, _, _ => by
    refine ⟨w, by simp [storeCells], ?_, rfl, rfl, rfl⟩
    simp only [splice, List.append_nil, List.length_nil, Nat.add_zero, List.take_append_drop]
    obtain ⟨hlt, hb'⟩ := Array.getElem?_eq_some_iff.1 hb
    apply Array.ext_getElem?
    intro j
    by_cases e' : b = j
    · subst e'; simp [hlt, hb']
    · rw [Array.getElem?_setIfInBounds_ne e']
  | v :: vs, w, c, off, i, hb, hv, hsz => by
    simp only [List.length_cons] at hsz
    have h1 : w.cell? ⟨b, off + i, none⟩ = some c[off + i] := by rw [cell_of_block hb]; exact Array.getElem?_eq_getElem (by omega)
    have h2 : w.frozen? ⟨b, off + i, none⟩ = false := by simp [World.frozen?, hb, hfz]
    have hb2 : (w.setCell ⟨b, off + i, none⟩ v).heap[b]? = some (.cells (c.setIfInBounds (off + i) v) e fz) := by
      simp [World.setCell, Array.getElem?_modify, hb]
    obtain ⟨w', hr, hh, ho, hu, ht⟩ := storeCells_run hfz vs (w.setCell ⟨b, off + i, none⟩ v) (c.setIfInBounds (off + i) v) off (i + 1) hb2 (fun u hu => hv u (List.mem_cons_of_mem _ hu)) (by simp; omega)
    refine ⟨w', ?_, ?_, ho, hu, ht⟩
    · simp only [storeCells, Sem.run_bind]
      rw [add_none, run_store P w _ v _ (hv v List.mem_cons_self)]
      simp only [h1, h2]
      simpa using hr
    · rw [hh]
      apply Array.ext_getElem?
      intro j
      by_cases e' : b = j
      · subst e'
        have hlt := (Array.getElem?_eq_some_iff.1 hb).1
        simp only [World.setCell]
        rw [Array.getElem?_setIfInBounds_self, Array.getElem?_setIfInBounds_self]
        simp only [Array.size_modify, hlt, if_true]
        congr 2
        apply Array.ext'
        simp only [splice, Array.toList_setIfInBounds, List.length_cons]
        rw [show off + (i + 1) = off + i + 1 by omega, List.take_succ_eq_append_getElem (by simp; omega)]
        simp only [List.getElem_set_self, List.append_assoc, List.nil_append, List.take_set_of_le (Nat.le_refl _), List.cons_append]
        rw [List.drop_set_of_lt (by omega), show off + i + 1 + vs.length = off + i + (vs.length + 1) by omega]
      · rw [Array.getElem?_setIfInBounds_ne e', Array.getElem?_setIfInBounds_ne e']
        simp [World.setCell, Array.getElem?_modify, e']

theorem store_run (hi : Inv P B ρ h w) {a : Addr} {b s : Nat} {vs vs' : List Value} {h' : AH} (hr : ρ a.block = some (b, s)) (hl : storeCellsAt h a vs = some h') (hv : LRel ρ vs vs') :
    ∃ w', (storeCells ⟨b, a.off, none⟩ vs').run P w = .ok () w' ∧ Evo P B ρ h w ρ h' w' ∧ a.spot = none := by
  unfold storeCellsAt at hl
  split at hl
  · cases hl
  rename_i hcond
  simp only [Bool.or_eq_true, not_or, Bool.not_eq_true, decide_eq_false_iff_not, Bool.not_eq_false'] at hcond
  obtain ⟨⟨hs, hbase⟩, hall⟩ := hcond
  have hs : a.spot = none := by cases hh : a.spot with | none => rfl | some _ => rw [hh] at hs; cases hs
  split at hl
  · rename_i c e fz x hg
    split at hl
    · rename_i hle
      cases hl
      obtain ⟨o', ho, c', rfl, hc, hsz, hx⟩ := hi.blk _ _ hg b s hr
      have hlen := hc.length
      have hvl := hv.length
      have hone : ∀ v ∈ vs', v.oneCell' = true := by
        intro v hv'
        obtain ⟨j, hj⟩ := List.getElem?_of_mem hv'
        have hjl : j < vs.length := by
          have := (List.getElem?_eq_some_iff.1 hj).1
          omega
        obtain ⟨u, hu, hru⟩ := hv.get (List.getElem?_eq_getElem hjl)
        rw [hj] at hu; cases hu
        exact hru.oneCell (List.all_eq_true.1 hall _ (List.getElem_mem hjl))
      simp only [List.length_take] at hlen
      obtain ⟨w', hrun, hheap, hos, hout, htape⟩ := storeCells_run (P := P) hle.1 vs' w c' a.off 0 ho hone (by simp at hlen ⊢; omega)
      refine ⟨w', hrun, evo_set hi (Nat.not_lt.1 hbase) hg hr (o := .cells (splice c a.off vs) e fz x) ⟨_, rfl, ?_, ?_, hx⟩ hheap hos hout htape, hs⟩
      · have : (splice c'.toList (a.off + 0) vs').take (splice c a.off vs).length = splice (c'.toList.take c.length) a.off vs' := by
          unfold splice
          simp only [Nat.add_zero]
          rw [List.take_append, List.take_append]
          simp only [List.length_append, List.length_take, List.length_drop, List.take_take]
          have e1 : min a.off c.length = a.off := by omega
          have e2 : a.off + vs.length + (c.length - (a.off + vs.length)) = c.length := by omega
          rw [e1, e2]
          have e3 : min c.length a.off = a.off := by omega
          have e4 : min a.off c'.toList.length = a.off := by simp; simp at hlen; omega
          rw [e3, e4]
          congr 1
          · congr 1
            rw [List.take_of_length_le (by omega)]
          · rw [List.drop_take]
        show LRel ρ _ ((splice c'.toList (a.off + 0) vs').take (splice c a.off vs).length)
        rw [this]
        exact hc.splice _ hv
      · simp only [splice, List.length_append, List.length_take, List.length_drop] at *
        simp at hlen
        simp
        omega
    · cases hl
  · cases hl

end Go.Ab
