/- The abstract machine: the builtins are the model's. -/
import Derived.Test.YtflmoocllahjnaaAb9
namespace Go.Ab
open Go.RowKit
variable {P : Program} {B : Nat} {ρ : Rho} {h : AH} {w : World}

/-- A world whose heap is the same. -/
theorem Inv.of_heap (hi : Inv P B ρ h w) {w' : World} (hh : w'.heap = w.heap) : Inv P B ρ h w' where
  blk := fun i o hg b s hr => by rw [hh]; exact hi.blk i o hg b s hr
  inj := hi.inj
  low := hi.low
  old := hi.old
  fresh := hi.fresh
  freshG := hi.freshG
  glob := hi.glob
  size := by rw [hh]; exact hi.size
  bn := hi.bn

theorem lenOf_run {x x' : Value} {n : Nat} (hx : VRel ρ x x') (hn : lenOfV x = some n) : (Builtin.lenOf x').run P w = .ok n w := by
  unfold lenOfV at hn
  split at hn
  · rename_i a _ _
    cases hn
    cases a with
    | none => simp only [VRel] at hx; subst hx; rfl
    | some a =>
      obtain ⟨_, _, sp⟩ := a
      cases sp with
      | none => simp only [VRel] at hx; obtain ⟨_, _, _, _, _, _, rfl⟩ := hx; rfl
      | some _ => simp only [VRel] at hx; obtain ⟨rfl, _, _, _, rfl⟩ := hx; rfl
  · cases hn; simp only [VRel] at hx; subst hx; rfl
  · cases hn

theorem src_run (hi : Inv P B ρ h w) {x x' : Value} {size n : Nat} {new : List Value} (hx : VRel ρ x x') (hs : srcCells h size n x = some new) :
    ∃ new', (Builtin.firstCells size n x').run P w = .ok ⟨new'⟩ w ∧ LRel ρ new new' := by
  unfold srcCells at hs
  split at hs
  · split at hs
    · cases hs; simp only [VRel] at hx; subst hx; exact ⟨[], by simp [Builtin.firstCells], LRel.nil⟩
    · cases hs
  · rename_i a l c
    split at hs
    · rename_i h0
      cases hs; subst h0
      obtain ⟨_, _, sp⟩ := a
      have key : ∀ a' c', (Builtin.firstCells size 0 (.slice (some a') l c')).run P w = .ok ⟨[]⟩ w := fun a' c' => by simp [Builtin.firstCells, loadCells, loadCellsFrom]
      cases sp with
      | none => simp only [VRel] at hx; obtain ⟨_, _, _, _, _, _, rfl⟩ := hx; exact ⟨[], key _ _, LRel.nil⟩
      | some _ => simp only [VRel] at hx; obtain ⟨rfl, _, _, _, rfl⟩ := hx; exact ⟨[], key _ _, LRel.nil⟩
    · rename_i h0
      split at hs
      · obtain ⟨i, o, sp⟩ := a
        cases sp with
        | none =>
          simp only [VRel] at hx; obtain ⟨b, s, c', hr, _, _, rfl⟩ := hx
          obtain ⟨l', hrun, hrel, _, _⟩ := loadCells_run hi (a := ⟨i, o, none⟩) hr hs
          exact ⟨l', hrun, hrel⟩
        | some _ => simp [loadCellsAt] at hs
      · cases hs
  · split at hs
    · cases hs
      simp only [VRel] at hx; subst hx
      refine ⟨_, show _ = Result.ok (⟨((ByteArray.extract _ 0 n).data.toList.map fun b => Value.int .u8 b.toNat)⟩ : Array Value) w from ?_, LRel.map_ev (fun b => by simp only [VRel]) _⟩
      simp only [Builtin.firstCells, Sem.run_pure, Result.ok.injEq, and_true]
      exact Array.ext' (by simp)
    · cases hs
  · cases hs

theorem zeroCells_list {z : Value} {l : List Value} (hz : z.cells = ⟨l⟩) {size : Nat} (hl : l.length = size) (n : Nat) : Builtin.zeroCells z.cells n = ⟨zerosA l n⟩ := by
  unfold Builtin.zeroCells
  rw [hz]
  have := zeroCells_eq hl n
  rw [← hl] at this
  exact this

theorem append_grow {argTypes : Array TypeId} {ty sT e : TypeId} {i : TypeInfo} {zv : Value} {z : List Value} {base' : Option Addr} {sLen c' n : Nat} {x' : Value} {old' new' : List Value}
    (h0 : argTypes[0]? = some sT) (hd : P.underlying sT = some (.slice e)) (hi : P.info? e = some i) (hz : i.zero = some zv) (_hzc : zv.cells = ⟨z⟩)
    {uT : TypeId} (h1 : argTypes[1]? = some uT) (hu : P.underlying uT = some .string ∨ ∃ e', P.underlying uT = some (.slice e'))
    (hlen : (Builtin.lenOf x').run P w = .ok n w) (hgt : ¬ sLen + n ≤ c') (hbig : (sLen + n) * (i.bytes + 1) ≤ 2 ^ 46)
    (hold : (Builtin.firstCells (P.cellsOf e) sLen (.slice base' sLen c')).run P w.drew = .ok ⟨old'⟩ w.drew) (hnew : (Builtin.firstCells (P.cellsOf e) n x').run P w.drew = .ok ⟨new'⟩ w.drew) :
    (Builtin.append_ argTypes ty #[.slice base' sLen c', x']).run P w =
      .ok (.slice (some ⟨w.heap.size, 0, none⟩) (sLen + n) (grownCap w (sLen + n) c' e)) (w.drew.alloc (.cells (⟨old'⟩ ++ ⟨new'⟩ ++ Builtin.zeroCells zv.cells (grownCap w (sLen + n) c' e - (sLen + n))) e)) := by
  have e1 : (sLen + n) * i.bytes ≤ 2 ^ 46 := Nat.le_trans (Nat.mul_le_mul_left _ (Nat.le_succ _)) hbig
  have e2 : sLen + n ≤ 2 ^ 46 := Nat.le_trans (Nat.le_mul_of_pos_right _ (Nat.succ_pos _)) hbig
  have hfit : ¬ Builtin.nextslicecap (sLen + n) c' * i.bytes > 2 ^ 48 := by
    have := growslice_fits (need := sLen + n) (old := c') (bytes := i.bytes) (by omega) (by omega)
    omega
  have hmax : ¬ (((sLen + n : Nat) : Int) > IntKind.i64.max ∧ (false = true ∨ i.bytes = 0)) := by
    rw [IntKind.max_i64]; intro hh; omega
  have hq : (Question.appendCap (sLen + n) c' e).forced = false := rfl
  have t1 : ∀ w', (typeInfo e).run P w' = .ok i w' := fun w' => by simp [typeInfo, hi]
  have t2 : ∀ w', (sizeOf e).run P w' = .ok (P.cellsOf e) w' := fun w' => size_run hi
  have t3 : ∀ w', (zeroValue e).run P w' = .ok zv w' := fun w' => by simp [zeroValue, typeInfo, hi, hz]
  rcases hu with hu | ⟨e', hu⟩
  all_goals
    unfold Builtin.append_
    simp only [h0, h1, List.getElem?_toArray, List.getElem?_cons_zero, List.getElem?_cons_succ, Sem.run_bind, run_underlying hd, run_underlying hu, Result.andThen_ok, t2, Sem.run_pure,
      Bool.false_eq_true, if_false, hlen, hgt, t1, false_or]
    simp only [Bool.false_eq_true, false_or] at hmax
    rw [if_neg hmax]
    simp only [Sem.run_bind, run_choose, hq, Bool.false_eq_true, if_false, Result.andThen_ok, run_askRoom, World.drew_eq, t1, hfit, hold, Bool.not_false, if_true, hnew, t3]
    simp only [newRow, Sem.run_bind, run_newObj, Result.andThen_ok, Sem.run_pure, World.alloc_eq]
    rfl

theorem append_fits {argTypes : Array TypeId} {ty sT e uT : TypeId} {i : TypeInfo} {base' : Option Addr} {sLen c' n : Nat} {x' : Value} {new' : List Value}
    (h0 : argTypes[0]? = some sT) (hd : P.underlying sT = some (.slice e)) (hi : P.info? e = some i)
    (h1 : argTypes[1]? = some uT) (hu : P.underlying uT = some .string ∨ ∃ e', P.underlying uT = some (.slice e'))
    (hlen : (Builtin.lenOf x').run P w = .ok n w) (hle : sLen + n ≤ c') (hnew : (Builtin.firstCells (P.cellsOf e) n x').run P w = .ok ⟨new'⟩ w) :
    (Builtin.append_ argTypes ty #[.slice base' sLen c', x']).run P w =
      match base' with
      | some a => ((storeCells (a.add (sLen * P.cellsOf e)) new').run P w).andThen fun _ w' => .ok (.slice base' (sLen + n) c') w'
      | none => .ok (.slice base' (sLen + n) c') w := by
  have t2 : ∀ w', (sizeOf e).run P w' = .ok (P.cellsOf e) w' := fun w' => size_run hi
  rcases hu with hu | ⟨e', hu⟩
  all_goals
    unfold Builtin.append_
    simp only [h0, h1, List.getElem?_toArray, List.getElem?_cons_zero, List.getElem?_cons_succ, Sem.run_bind, run_underlying hd, run_underlying hu, Result.andThen_ok, t2, Sem.run_pure,
      Bool.false_eq_true, if_false, hlen, hle, if_true, Bool.not_false, hnew]
    cases base' <;> simp

/-- A block that is given up. -/
theorem evo_kill (hi : Inv P B ρ h w) {i b s : Nat} {o0 : Blk} (hbi : h.base ≤ i) (hg : h.get i = some o0) (hr : ρ i = some (b, s)) : Evo P B ρ h w ρ (h.set i none) w := by
  have hget : ∀ j, (h.set i none).get j = if j = i then none else h.get j := fun j => AH.get_set hbi
  have hsome : ∀ j, ((h.set i none).get j).isSome → (h.get j).isSome ∧ j ≠ i := fun j hj => by
    rw [hget] at hj
    by_cases e : j = i
    · rw [if_pos e] at hj; cases hj
    · rw [if_neg e] at hj; exact ⟨hj, e⟩
  refine { ext := Ext.refl _, inv := ?_, un := fun _ _ h => h, keepU := ?_, stay := fun j hj hn => by rw [hget]; split; rfl; exact hn, frame := fun _ _ _ => rfl, range := ?_, base := AH.set_base, oldG := ?_, next := by simp, size := Nat.le_refl _, os := rfl, out := rfl, tape := rfl }
  · refine { blk := ?_, inj := ?_, low := ?_, old := ?_, fresh := ?_, freshG := ?_, glob := hi.glob, size := hi.size, bn := by simp; exact hi.bn }
    · intro j oj gj bj sj rj
      have := hsome j (by rw [gj]; rfl)
      rw [hget, if_neg this.2] at gj
      exact hi.blk j oj gj bj sj rj
    · intro j k bb sj sk hj hk gj gk rj rk
      simp at hj hk
      exact hi.inj j k bb sj sk hj hk (hsome j gj).1 (hsome k gk).1 rj rk
    · intro j bb sj hj gj rj
      simp at hj
      exact hi.low j bb sj hj (hsome j gj).1 rj
    · intro j bb sj hj rj
      simp at hj
      exact hi.old j bb sj hj rj
    · intro j hj
      simp at hj
      exact hi.fresh j hj
    · intro j hj
      simp at hj
      rw [hget]
      split
      · rfl
      · exact hi.freshG j hj
  · intro j hj hn
    rw [hget, if_neg]
    intro e; subst e; rw [hr] at hn; cases hn
  · intro j bb sj hj gj rj _
    exact ⟨j, sj, hj, (hsome j gj).1, rj⟩
  · intro j hj
    rw [hget, if_neg (by omega)]

theorem append_sound (hi : Inv P B ρ h w) {argTypes : Array TypeId} {ty : TypeId} {s x s' x' v : Value} {h' : AH} (hs : VRel ρ s s') (hx : VRel ρ x x') (hv : aappend P h argTypes s x = some (v, h')) :
    ∃ ρ' w' v', Evo P B ρ h w ρ' h' w' ∧ VRel ρ' v v' ∧ (Builtin.append_ argTypes ty #[s', x']).run P w = .ok v' w' := by
  unfold aappend at hv
  split at hv
  · rename_i e base sLen sCap n hd hn
    split at hv
    · cases hv
    · rename_i hxk
      split at hv
      · rename_i z new hz hnew
        obtain ⟨i, zv, hinf, hzero, hzr, hzc, hzl, hzz⟩ := zero_run (w := w) hz
        have hzc' : zv.cells = ⟨z⟩ := by rw [← hzc]
        have hby : i.bytes = P.bytesOf e := by simp [Program.bytesOf, hinf]
        split at hv
        · cases hv
        · rename_i hcell
          simp only [Bool.or_eq_true, Bool.not_eq_true', bne_iff_ne, ne_eq, not_or, Bool.not_eq_false, Decidable.not_not] at hcell
          obtain ⟨hall, hnl⟩ := hcell
          obtain ⟨sT, h0, hd⟩ : ∃ sT, argTypes[0]? = some sT ∧ P.underlying sT = some (.slice e) := by
            cases h0 : argTypes[0]? with
            | none => rw [h0] at hd; cases hd
            | some sT => rw [h0] at hd; exact ⟨sT, rfl, hd⟩
          obtain ⟨uT, h1, hu⟩ : ∃ uT, argTypes[1]? = some uT ∧ (P.underlying uT = some .string ∨ ∃ e', P.underlying uT = some (.slice e')) := by
            unfold srcKind at hxk
            cases h1 : argTypes[1]? with
            | none => simp [h1] at hxk
            | some uT =>
              refine ⟨uT, rfl, ?_⟩
              simp only [h1, Option.bind_some] at hxk
              cases hu : P.underlying uT with
              | none => simp [hu] at hxk
              | some d => rw [hu] at hxk; cases d <;> simp at hxk ⊢
          have hlen := lenOf_run (P := P) (w := w) hx hn
          obtain ⟨new', hnrun, hnrel⟩ := src_run hi hx hnew
          have hnl' := hnrel.length
          have hid : Inv P B ρ h w.drew := hi.of_heap rfl
          split at hv
          · -- there is room
            rename_i hle
            split at hv
            · split at hv
              · rename_i hn0
                cases hv; subst hn0
                simp only [VRel] at hs; subst hs
                refine ⟨ρ, w, .slice none sLen sCap, Evo.refl hi, by simp only [VRel], ?_⟩
                rw [append_fits h0 hd hinf h1 hu hlen (by omega) hnrun]
                simp
              · cases hv
            · rename_i a
              split at hv
              · cases hv
              · rename_i hsp
                obtain ⟨ai, ao, asp⟩ := a
                obtain rfl : asp = none := by cases asp with | none => rfl | some _ => exact absurd rfl hsp
                have hs0 := hs
                simp only [VRel] at hs
                obtain ⟨b, sp, c', hr, hc1, hc2, rfl⟩ := hs
                have hrun := append_fits (ty := ty) (base' := some ⟨b, ao, none⟩) (sLen := sLen) (c' := c') h0 hd hinf h1 hu hlen (by omega) hnrun
                simp only [add_none] at hrun
                split at hv
                · rename_i hn0
                  cases hv; subst hn0
                  have : new' = [] := List.eq_nil_of_length_eq_zero (by omega)
                  subst this
                  refine ⟨ρ, w, _, Evo.refl hi, hs0, ?_⟩
                  rw [hrun]
                  simp [storeCells]
                · simp only [Option.map_eq_some_iff] at hv
                  obtain ⟨h2, hst, hv⟩ := hv
                  cases hv
                  rw [add_none] at hst
                  obtain ⟨w', hrun2, hevo, _⟩ := store_run hi (a := ⟨ai, ao + sLen * P.cellsOf e, none⟩) hr hst hnrel
                  refine ⟨ρ, w', .slice (some ⟨b, ao, none⟩) (sLen + n) c', hevo, ?_, ?_⟩
                  · simp only [VRel]; exact ⟨b, sp, c', hr, hc1, hc2, rfl⟩
                  · rw [hrun, hrun2]; rfl
          · rename_i hgt
            split at hv
            · rename_i hbig
              -- what the grown one is
              have grown : ∀ (base' : Option Addr) (c' : Nat) (old old' : List Value) (ρ0 : Rho) (h0' : AH), ¬ sLen + n ≤ c' → LRel ρ old old' → old.length = sLen * P.cellsOf e →
                  (Builtin.firstCells (P.cellsOf e) sLen (.slice base' sLen c')).run P w.drew = .ok ⟨old'⟩ w.drew → Evo P B ρ h w ρ h0' w → h0'.next = h.next →
                  ∃ ρ' w' v', Evo P B ρ h w ρ' (h0'.alloc (.cells (old ++ new) e (0, 0) false)) w' ∧ VRel ρ' (.slice (some ⟨h.next, 0, none⟩) (sLen + n) (sLen + n)) v' ∧ (Builtin.append_ argTypes ty #[.slice base' sLen c', x']).run P w = .ok v' w' := by
                intro base' c' old old' ρ0 h0' hgt' hold hol hor hevo hnx
                obtain ⟨new2, hnrun2, hnrel2⟩ := src_run hid hx hnew
                have hrun := append_grow (ty := ty) (base' := base') (sLen := sLen) (c' := c') h0 hd hinf hzero hzc' h1 hu hlen hgt' (by rw [hby]; exact hbig) hor hnrun2
                have hcap := grownCap_ge w (sLen + n) c' e
                have hol' := hold.length
                have hn2 := hnrel2.length
                refine ⟨_, _, _, hevo.trans (evo_alloc (s := grownCap w (sLen + n) c' e - (sLen + n)) hevo.inv (o := .cells (old ++ new) e (0, 0) false) (o' := .cells (⟨old'⟩ ++ ⟨new2⟩ ++ Builtin.zeroCells zv.cells (grownCap w (sLen + n) c' e - (sLen + n))) e) (w' := w.drew.alloc (.cells (⟨old'⟩ ++ ⟨new2⟩ ++ Builtin.zeroCells zv.cells (grownCap w (sLen + n) c' e - (sLen + n))) e)) ⟨_, rfl, ?_, ?_, fun hh => by cases hh⟩ rfl rfl rfl rfl), ?_, hrun⟩
                · have e1 : (old ++ new).length = (old' ++ new2).length := by simp only [List.length_append]; omega
                  simp only [Array.toList_append]
                  rw [e1, List.take_append_of_le_length (Nat.le_refl _), List.take_length]
                  exact LRel.mono (Ext.upd (hevo.inv.fresh _ (Nat.le_refl _))) _ _ (hold.append hnrel2)
                · have e2 : zv.cells.size = P.cellsOf e := by rw [hzc']; exact hzl
                  simp only [Array.size_append, size_zeroCells, List.size_toArray, List.length_append, e2]
                  omega
                · rw [hnx]
                  simp only [VRel]
                  exact ⟨_, _, _, upd_same, by omega, by omega, rfl⟩
              split at hv
              · split at hv
                · rename_i hs0
                  subst hs0
                  simp only [VRel] at hs; subst hs
                  simp only [Option.some.injEq, Prod.mk.injEq] at hv
                  obtain ⟨rfl, rfl⟩ := hv
                  have := grown none sCap [] [] ρ h hgt LRel.nil (by simp) (by simp [Builtin.firstCells]) (Evo.refl hi) rfl
                  simpa using this
                · cases hv
              · rename_i a
                split at hv
                · rename_i old c e' fz xx hold hg
                  split at hv
                  · cases hv
                  · obtain ⟨ai, ao, asp⟩ := a
                    have hs0 := hs
                    obtain rfl : asp = none := by
                      unfold loadCellsAt at hold
                      cases asp with
                      | none => rfl
                      | some _ => simp at hold
                    simp only [VRel] at hs
                    obtain ⟨b, sp, c', hr, hc1, hc2, rfl⟩ := hs
                    obtain ⟨old', horun, horel, _, holen⟩ := loadCells_run hid (a := ⟨ai, ao, none⟩) hr hold
                    have horun' : (Builtin.firstCells (P.cellsOf e) sLen (.slice (some ⟨b, ao, none⟩) sLen c')).run P w.drew = .ok ⟨old'⟩ w.drew := horun
                    obtain ⟨ob, hob, cc, rfl, hcc, hsz, hx0⟩ := hi.blk _ _ hg b sp hr
                    split at hv
                    · rename_i hxx
                      simp only [Option.some.injEq, Prod.mk.injEq] at hv
                      obtain ⟨rfl, rfl⟩ := hv
                      have hsp0 : sp = 0 := hx0 hxx
                      exact grown _ c' old old' ρ h (by omega) horel holen horun' (Evo.refl hi) rfl
                    · rename_i hxx
                      split at hv
                      · rename_i hc
                        obtain ⟨rfl, hao, hbase, rfl, hcl⟩ := hc
                        simp only at hao hbase
                        subst hao
                        simp only [Option.some.injEq, Prod.mk.injEq] at hv
                        obtain ⟨rfl, rfl⟩ := hv
                        by_cases hfit : sLen + n ≤ c'
                        · -- there was room behind what is told
                          have hb1 : (sLen + n) * P.cellsOf e' ≤ c' * P.cellsOf e' := Nat.mul_le_mul_right _ hfit
                          have hb2 : c' * P.cellsOf e' ≤ (sCap + sp) * P.cellsOf e' := Nat.mul_le_mul_right _ hc2
                          rw [Nat.add_mul] at hb1 hb2
                          have hone : ∀ v ∈ new', v.oneCell' = true := by
                            intro v hv'
                            obtain ⟨j, hj⟩ := List.getElem?_of_mem hv'
                            have hjl : j < new.length := by
                              have := (List.getElem?_eq_some_iff.1 hj).1
                              omega
                            obtain ⟨u, hu', hru⟩ := hnrel.get (List.getElem?_eq_getElem hjl)
                            rw [hj] at hu'; cases hu'
                            exact hru.oneCell (List.all_eq_true.1 hall _ (List.getElem_mem hjl))
                          obtain ⟨w', hrun2, hheap, hos, hout, htape⟩ := storeCells_run (P := P) (b := b) (e := e') (fz := (0, 0)) rfl new' w cc (0 + sLen * P.cellsOf e') 0 hob hone (by omega)
                          have hrun := append_fits (ty := ty) (base' := some ⟨b, 0, none⟩) (sLen := sLen) (c' := c') h0 hd hinf h1 hu hlen hfit hnrun
                          simp only [add_none] at hrun
                          have hb3 : (c' - (sLen + n)) * P.cellsOf e' = c' * P.cellsOf e' - (sLen * P.cellsOf e' + n * P.cellsOf e') := by rw [Nat.sub_mul, Nat.add_mul]
                          refine ⟨_, w', .slice (some ⟨b, 0, none⟩) (sLen + n) c', evo_move hi hbase hg hr (s' := c' - (sLen + n)) (o := .cells (old ++ new) e' (0, 0) false) ⟨_, rfl, ?_, ?_, fun hh => by cases hh⟩ hheap hos hout htape, ?_, ?_⟩
                          · refine LRel.mono (Ext.upd (hi.fresh _ (Nat.le_refl _))) _ _ ?_
                            have hcl' := hcc.length
                            simp only [List.length_take, Array.length_toList] at hcl'
                            unfold loadCellsAt at hold
                            simp only [Option.isSome_none, Bool.false_eq_true, if_false, hg] at hold
                            split at hold
                            · rename_i hle'
                              cases hold
                              have ht : (splice cc.toList (0 + sLen * P.cellsOf e' + 0) new').take ((c.drop 0).take (sLen * P.cellsOf e') ++ new).length = cc.toList.take (sLen * P.cellsOf e') ++ new' := by
                                unfold splice
                                have e1 : ((c.drop 0).take (sLen * P.cellsOf e') ++ new).length = (cc.toList.take (sLen * P.cellsOf e') ++ new').length := by
                                  simp only [List.length_append, List.length_take, List.drop_zero, Array.length_toList]
                                  omega
                                rw [e1]
                                simp only [Nat.zero_add, Nat.add_zero]
                                rw [List.take_append_of_le_length (Nat.le_refl _), List.take_length]
                              show LRel ρ _ ((splice cc.toList (0 + sLen * P.cellsOf e' + 0) new').take ((c.drop 0).take (sLen * P.cellsOf e') ++ new).length)
                              rw [ht]
                              refine LRel.append ?_ hnrel
                              have := hcc.take (sLen * P.cellsOf e')
                              rw [List.take_take] at this
                              simp only [List.drop_zero]
                              rw [Nat.min_eq_left (by omega)] at this
                              exact this
                            · cases hold
                          · show (old ++ new).length + (c' - (sLen + n)) * P.cellsOf e' ≤ (splice cc.toList (0 + sLen * P.cellsOf e' + 0) new').length
                            simp only [List.length_append, splice, List.length_take, List.length_drop, Array.length_toList]
                            omega
                          · simp only [VRel]
                            exact ⟨b, _, c', upd_same, hfit, by omega, rfl⟩
                          · rw [hrun, hrun2]; rfl
                        · exact grown _ c' old old' ρ (h.set ai none) hfit horel holen horun' (evo_kill hi hbase hg hr) (by simp)
                      · cases hv
                · cases hv
            · cases hv
      · cases hv
  · cases hv

theorem evo_draw (hi : Inv P B ρ h w) : Evo P B ρ h w ρ h w.drew :=
  { Evo.refl hi with inv := hi.of_heap rfl }

theorem bltin_sound (hi : Inv P B ρ h w) {b : Builtin} {argTypes : Array TypeId} {ty : TypeId} {consts : Array Bool} {args args' : List Value} {v : Value} {h' : AH} (ha : LRel ρ args args') (hv : abuiltin P h b argTypes args = some (v, h')) :
    ∃ ρ' w' v', Evo P B ρ h w ρ' h' w' ∧ VRel ρ' v v' ∧ (builtin b argTypes ty consts ⟨args'⟩).run P w = .ok (.value v') w' := by
  unfold abuiltin at hv
  split at hv
  · -- len
    rename_i x
    simp only [LRel] at ha
    obtain ⟨x', t, hx, rfl, rfl⟩ := ha
    have key : ∀ (t : TypeId) (n : Nat), argTypes[0]? = some t → (Builtin.len_ argTypes ty #[x']).run P w = .ok (goInt n) w → ∃ ρ' w' v', Evo P B ρ h w ρ' h w' ∧ VRel ρ' (.int .i64 n) v' ∧ (builtin .len argTypes ty consts ⟨[x']⟩).run P w = .ok (.value v') w' :=
      fun t n _ hr => ⟨ρ, w, .int .i64 n, Evo.refl hi, by simp only [VRel], by
        show (do pure (Next.value (← Builtin.len_ argTypes ty #[x'])) : Sem Next).run P w = _
        simp only [Sem.run_bind, hr, Result.andThen_ok]; rfl⟩
    cases h0 : argTypes[0]? with
    | none => rw [h0] at hv; simp at hv
    | some t =>
      rw [h0] at hv
      simp only [Option.bind_some] at hv
      split at hv
      · rename_i s hd
        simp only [Option.some.injEq, Prod.mk.injEq] at hv
        obtain ⟨rfl, rfl⟩ := hv
        simp only [VRel] at hx; subst hx
        exact key t _ h0 (by simp [Builtin.len_, h0, run_underlying hd])
      · rename_i n e hd
        simp only [Option.some.injEq, Prod.mk.injEq] at hv
        obtain ⟨rfl, rfl⟩ := hv
        exact key t _ h0 (by simp [Builtin.len_, h0, run_underlying hd])
      · rename_i e hd
        split at hv
        · rename_i n e2 hd2
          simp only [Option.some.injEq, Prod.mk.injEq] at hv
          obtain ⟨rfl, rfl⟩ := hv
          exact key t _ h0 (by simp [Builtin.len_, h0, run_underlying hd, run_underlying hd2])
        · cases hv
      · rename_i e a n c hd
        simp only [Option.some.injEq, Prod.mk.injEq] at hv
        obtain ⟨rfl, rfl⟩ := hv
        cases a with
        | none => simp only [VRel] at hx; subst hx; exact key t _ h0 (by simp [Builtin.len_, h0, run_underlying hd])
        | some a =>
          obtain ⟨_, _, sp⟩ := a
          cases sp with
          | none => simp only [VRel] at hx; obtain ⟨_, _, _, _, _, _, rfl⟩ := hx; exact key t _ h0 (by simp [Builtin.len_, h0, run_underlying hd])
          | some _ => simp only [VRel] at hx; obtain ⟨rfl, _, _, _, rfl⟩ := hx; exact key t _ h0 (by simp [Builtin.len_, h0, run_underlying hd])
      · cases hv
  · -- append
    rename_i s x
    simp only [LRel] at ha
    obtain ⟨s', _, hs, ⟨x', _, hx, rfl, rfl⟩, rfl⟩ := ha
    obtain ⟨ρ', w', v', h1, h2, h3⟩ := append_sound hi (ty := ty) hs hx hv
    refine ⟨ρ', w', v', h1, h2, ?_⟩
    show (do pure (Next.value (← Builtin.append_ argTypes ty #[s', x'])) : Sem Next).run P w = _
    simp only [Sem.run_bind, h3, Result.andThen_ok]; rfl
  · -- copy
    rename_i d x
    simp only [LRel] at ha
    obtain ⟨d', _, hd', ⟨x', _, hx, rfl, rfl⟩, rfl⟩ := ha
    split at hv
    · rename_i e base dLen dCap m hd hm
      split at hv
      · cases hv
      · rename_i hinf
        obtain ⟨i, hinf⟩ : ∃ i, P.info? e = some i := by cases hh : P.info? e with | none => simp [hh] at hinf | some i => exact ⟨i, rfl⟩
        obtain ⟨sT, h0, hd⟩ : ∃ sT, argTypes[0]? = some sT ∧ P.underlying sT = some (.slice e) := by
          cases h0 : argTypes[0]? with
          | none => rw [h0] at hd; cases hd
          | some sT => rw [h0] at hd; exact ⟨sT, rfl, hd⟩
        have hlen := lenOf_run (P := P) (w := w) hx hm
        split at hv
        · rename_i new hnew
          obtain ⟨new', hnrun, hnrel⟩ := src_run hi hx hnew
          have key : ∀ (base' : Option Addr) (c' : Nat), (Builtin.copy_ argTypes ty #[.slice base' dLen c', x']).run P w =
              match base' with
              | some a => ((storeCells a new').run P w).andThen fun _ w' => .ok (goInt (Nat.min m dLen)) w'
              | none => .ok (goInt (Nat.min m dLen)) w := fun base' c' => by
            cases base' <;> simp [Builtin.copy_, h0, run_underlying hd, hlen, size_run hinf, hnrun]
          split at hv
          · simp only [Option.some.injEq, Prod.mk.injEq] at hv
            obtain ⟨rfl, rfl⟩ := hv
            simp only [VRel] at hd'; subst hd'
            refine ⟨ρ, w, .int .i64 (Nat.min m dLen : Nat), Evo.refl hi, by simp only [VRel], ?_⟩
            show (do pure (Next.value (← Builtin.copy_ argTypes ty #[_, x'])) : Sem Next).run P w = _
            simp only [Sem.run_bind, key, Result.andThen_ok]; rfl
          · rename_i a
            split at hv
            · rename_i hz
              simp only [Option.some.injEq, Prod.mk.injEq] at hv
              obtain ⟨rfl, rfl⟩ := hv
              have hnil : new' = [] := by
                rw [hz] at hnew
                have : new.length = 0 := by
                  unfold srcCells at hnew
                  split at hnew
                  · simp at hnew; subst hnew; rfl
                  · simp at hnew; subst hnew; rfl
                  · simp at hnew; subst hnew; simp
                  · cases hnew
                exact List.eq_nil_of_length_eq_zero (by rw [hnrel.length]; exact this)
              subst hnil
              refine ⟨ρ, w, .int .i64 0, Evo.refl hi, by simp only [VRel], ?_⟩
              obtain ⟨ai, ao, asp⟩ := a
              cases asp with
              | none =>
                simp only [VRel] at hd'; obtain ⟨_, _, c', _, _, _, rfl⟩ := hd'
                show (do pure (Next.value (← Builtin.copy_ argTypes ty #[_, x'])) : Sem Next).run P w = _
                simp only [Sem.run_bind, key, storeCells, Sem.run_pure, Result.andThen_ok, hz]; rfl
              | some _ =>
                simp only [VRel] at hd'; obtain ⟨rfl, _, _, c', rfl⟩ := hd'
                show (do pure (Next.value (← Builtin.copy_ argTypes ty #[_, x'])) : Sem Next).run P w = _
                simp only [Sem.run_bind, key, storeCells, Sem.run_pure, Result.andThen_ok, hz]; rfl
            · simp only [Option.map_eq_some_iff] at hv
              obtain ⟨h2, hst, hv⟩ := hv
              cases hv
              obtain ⟨ai, ao, asp⟩ := a
              cases asp with
              | none =>
                simp only [VRel] at hd'; obtain ⟨b, sp, c', hr, _, _, rfl⟩ := hd'
                obtain ⟨w', hrun2, hevo, _⟩ := store_run hi (a := ⟨ai, ao, none⟩) hr hst hnrel
                refine ⟨ρ, w', .int .i64 (Nat.min m dLen : Nat), hevo, by simp only [VRel], ?_⟩
                show (do pure (Next.value (← Builtin.copy_ argTypes ty #[_, x'])) : Sem Next).run P w = _
                simp only [Sem.run_bind, key, hrun2, Result.andThen_ok]; rfl
              | some _ => simp [storeCellsAt] at hst
        · cases hv
    · cases hv
  · -- clear
    rename_i x
    simp only [LRel] at ha
    obtain ⟨x', t, hx, rfl, rfl⟩ := ha
    have key : ∀ (w' : World) (h' : AH), Evo P B ρ h w ρ h' w' → (Builtin.clear_ argTypes ty #[x']).run P w = .ok (.tuple #[]) w' → ∃ ρ' w' v', Evo P B ρ h w ρ' h' w' ∧ VRel ρ' (.tuple #[]) v' ∧ (builtin .clear argTypes ty consts ⟨[x']⟩).run P w = .ok (.value v') w' :=
      fun w' h' he hr => ⟨ρ, w', .tuple #[], he, plainV_rel _ (by simp [plainV, plainA, plainL]), by
        show (do pure (Next.value (← Builtin.clear_ argTypes ty #[x'])) : Sem Next).run P w = _
        simp only [Sem.run_bind, hr, Result.andThen_ok]; rfl⟩
    cases h0 : argTypes[0]? with
    | none => rw [h0] at hv; simp at hv
    | some t =>
      rw [h0] at hv
      simp only [Option.bind_some] at hv
      split at hv
      · rename_i d _ _ hd
        simp only [Option.some.injEq, Prod.mk.injEq] at hv
        obtain ⟨rfl, rfl⟩ := hv
        simp only [VRel] at hx; subst hx
        exact key w _ (Evo.refl hi) (by simp [Builtin.clear_, h0, run_underlying hd])
      · rename_i e a n c hd
        obtain ⟨ai, ao, asp⟩ := a
        split at hv
        · rename_i hn
          subst hn
          simp only [Option.some.injEq, Prod.mk.injEq] at hv
          obtain ⟨rfl, rfl⟩ := hv
          cases asp with
          | none =>
            simp only [VRel] at hx; obtain ⟨_, _, c', _, _, _, rfl⟩ := hx
            exact key w _ (Evo.refl hi) (by simp [Builtin.clear_, h0, run_underlying hd])
          | some _ =>
            simp only [VRel] at hx; obtain ⟨_, _, _, c', rfl⟩ := hx
            exact key w _ (Evo.refl hi) (by simp [Builtin.clear_, h0, run_underlying hd])
        · rename_i hn
          split at hv
          · rename_i z hz
            simp only [Option.map_eq_some_iff] at hv
            obtain ⟨h2, hst, hv⟩ := hv
            cases hv
            obtain ⟨i, zv, hinf, hzero, hzr, hzc, hzl, hzz⟩ := zero_run (w := w) hz
            cases asp with
            | none =>
              simp only [VRel] at hx; obtain ⟨b, sp, c', hr, _, _, rfl⟩ := hx
              obtain ⟨w', hrun2, hevo, _⟩ := store_run hi (a := ⟨ai, ao, none⟩) hr hst (zerosA_rel (hzz ρ) n)
              refine key w' _ hevo ?_
              have hzc' : zv.cells = ⟨z⟩ := by rw [← hzc]
              have hzz' := zeroCells_list hzc' hzl n
              unfold Builtin.clear_
              simp only [h0, List.getElem?_toArray, List.getElem?_cons_zero, Sem.run_bind, run_underlying hd, Result.andThen_ok]
              simp only [hzr, Result.andThen_ok, hzz', hrun2]
              rfl
            | some _ => simp [storeCellsAt] at hst
          · cases hv
      · cases hv
  · -- min
    rename_i k x k' y
    simp only [LRel] at ha
    obtain ⟨x', _, hx, ⟨y', _, hy, rfl, rfl⟩, rfl⟩ := ha
    simp only [VRel] at hx hy; subst hx; subst hy
    simp only [Option.some.injEq, Prod.mk.injEq] at hv
    obtain ⟨rfl, rfl⟩ := hv
    exact ⟨ρ, w, _, Evo.refl hi, by simp only [VRel]; rfl, by simp [builtin, Builtin.min_, Builtin.min2]⟩
  · -- max
    rename_i k x k' y
    simp only [LRel] at ha
    obtain ⟨x', _, hx, ⟨y', _, hy, rfl, rfl⟩, rfl⟩ := ha
    simp only [VRel] at hx hy; subst hx; subst hy
    simp only [Option.some.injEq, Prod.mk.injEq] at hv
    obtain ⟨rfl, rfl⟩ := hv
    exact ⟨ρ, w, _, Evo.refl hi, by simp only [VRel]; rfl, by simp [builtin, Builtin.max_, Builtin.max2]⟩
  · cases hv

end Go.Ab
