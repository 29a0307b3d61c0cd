/- The abstract machine: regions that draw their order (the steps, and their end). -/
import Derived.Test.YtfkjpjkkjlipiaaDoorB1
import Derived.RangeFuncIn
section
namespace Go.Ab
open Go.RowKit
variable {P : Program} {B : Nat} {ρ : Rho} {h : AH} {w : World}

/-- A world whose heap is the same. -/
theorem Inv.of_heap (hi : Inv P B ρ h w) {w' : World} (hh : w'.heap = w.heap) : Inv P B ρ h w' where
  blk := fun i o hg b s hr => by rw [hh]; exact hi.blk i o hg b s hr
  inj := hi.inj
  low := hi.low
  old := hi.old
  fresh := hi.fresh
  freshG := hi.freshG
  glob := hi.glob
  size := by rw [hh]; exact hi.size
  bn := hi.bn

theorem lenOf_run {x x' : Value} {n : Nat} (hx : VRel ρ x x') (hn : lenOfV x = some n) : (Builtin.lenOf x').run P w = .ok n w := by
  unfold lenOfV at hn
  split at hn
  · rename_i a _ _
    cases hn
    cases a with
    | none => simp only [VRel] at hx; subst hx; rfl
    | some a =>
      obtain ⟨_, _, sp⟩ := a
      cases sp with
      | none => simp only [VRel] at hx; obtain ⟨_, _, _, _, _, _, rfl⟩ := hx; rfl
      | some _ => simp only [VRel] at hx; obtain ⟨rfl, _, _, _, _, _, rfl⟩ := hx; rfl
  · cases hn; simp only [VRel] at hx; subst hx; rfl
  · cases hn

theorem src_run (hi : Inv P B ρ h w) {x x' : Value} {size n : Nat} {new : List Value} (hx : VRel ρ x x') (hs : srcCells h size n x = some new) :
    ∃ new', (Builtin.firstCells size n x').run P w = .ok ⟨new'⟩ w ∧ LRel ρ new new' := by
  unfold srcCells at hs
  split at hs
  · split at hs
    · cases hs; simp only [VRel] at hx; subst hx; exact ⟨[], by simp [Builtin.firstCells], LRel.nil⟩
    · cases hs
  · rename_i a l c
    split at hs
    · rename_i h0
      cases hs; subst h0
      obtain ⟨_, _, sp⟩ := a
      have key : ∀ a' c', (Builtin.firstCells size 0 (.slice (some a') l c')).run P w = .ok ⟨[]⟩ w := fun a' c' => by simp [Builtin.firstCells, loadCells, loadCellsFrom]
      cases sp with
      | none => simp only [VRel] at hx; obtain ⟨_, _, _, _, _, _, rfl⟩ := hx; exact ⟨[], key _ _, LRel.nil⟩
      | some _ => simp only [VRel] at hx; obtain ⟨rfl, _, _, _, _, _, rfl⟩ := hx; exact ⟨[], key _ _, LRel.nil⟩
    · rename_i h0
      split at hs
      · obtain ⟨i, o, sp⟩ := a
        cases sp with
        | none =>
          simp only [VRel] at hx; obtain ⟨b, s, c', hr, _, _, rfl⟩ := hx
          obtain ⟨l', hrun, hrel, _, _⟩ := loadCells_run hi (a := ⟨i, o, none⟩) hr hs
          exact ⟨l', hrun, hrel⟩
        | some _ => simp [loadCellsAt] at hs
      · cases hs
  · split at hs
    · cases hs
      simp only [VRel] at hx; subst hx
      refine ⟨_, show _ = Result.ok (⟨((ByteArray.extract _ 0 n).data.toList.map fun b => Value.int .u8 b.toNat)⟩ : Array Value) w from ?_, LRel.map_ev (fun b => by simp only [VRel]) _⟩
      simp only [Builtin.firstCells, Sem.run_pure, Result.ok.injEq, and_true]
      exact Array.ext' (by simp)
    · cases hs
  · cases hs

theorem zeroCells_list {z : Value} {l : List Value} (hz : z.cells = ⟨l⟩) {size : Nat} (hl : l.length = size) (n : Nat) : Builtin.zeroCells z.cells n = ⟨zerosA l n⟩ := by
  unfold Builtin.zeroCells
  rw [hz]
  have := zeroCells_eq hl n
  rw [← hl] at this
  exact this

theorem append_grow {argTypes : Array TypeId} {ty sT e : TypeId} {i : TypeInfo} {zv : Value} {z : List Value} {base' : Option Addr} {sLen c' n : Nat} {x' : Value} {old' new' : List Value}
    (h0 : argTypes[0]? = some sT) (hd : P.underlying sT = some (.slice e)) (hi : P.info? e = some i) (hz : i.zero = some zv) (_hzc : zv.cells = ⟨z⟩)
    {uT : TypeId} (h1 : argTypes[1]? = some uT) (hu : P.underlying uT = some .string ∨ ∃ e', P.underlying uT = some (.slice e'))
    (hlen : (Builtin.lenOf x').run P w = .ok n w) (hgt : ¬ sLen + n ≤ c') (hbig : (sLen + n) * (i.bytes + 1) ≤ 2 ^ 46)
    (hold : (Builtin.firstCells (P.cellsOf e) sLen (.slice base' sLen c')).run P w.drew = .ok ⟨old'⟩ w.drew) (hnew : (Builtin.firstCells (P.cellsOf e) n x').run P w.drew = .ok ⟨new'⟩ w.drew) :
    (Builtin.append_ argTypes ty #[.slice base' sLen c', x']).run P w =
      .ok (.slice (some ⟨w.heap.size, 0, none⟩) (sLen + n) (grownCap w (sLen + n) c' e)) (w.drew.alloc (.cells (⟨old'⟩ ++ ⟨new'⟩ ++ Builtin.zeroCells zv.cells (grownCap w (sLen + n) c' e - (sLen + n))) e)) := by
  have e1 : (sLen + n) * i.bytes ≤ 2 ^ 46 := Nat.le_trans (Nat.mul_le_mul_left _ (Nat.le_succ _)) hbig
  have e2 : sLen + n ≤ 2 ^ 46 := Nat.le_trans (Nat.le_mul_of_pos_right _ (Nat.succ_pos _)) hbig
  have hfit : ¬ Builtin.nextslicecap (sLen + n) c' * i.bytes > 2 ^ 48 := by
    have := growslice_fits (need := sLen + n) (old := c') (bytes := i.bytes) (by omega) (by omega)
    omega
  have hmax : ¬ (((sLen + n : Nat) : Int) > IntKind.i64.max ∧ (false = true ∨ i.bytes = 0)) := by
    rw [IntKind.max_i64]; intro hh; omega
  have hq : (Question.appendCap (sLen + n) c' e).forced = false := rfl
  have t1 : ∀ w', (typeInfo e).run P w' = .ok i w' := fun w' => by simp [typeInfo, hi]
  have t2 : ∀ w', (sizeOf e).run P w' = .ok (P.cellsOf e) w' := fun w' => size_run hi
  have t3 : ∀ w', (zeroValue e).run P w' = .ok zv w' := fun w' => by simp [zeroValue, typeInfo, hi, hz]
  rcases hu with hu | ⟨e', hu⟩
  all_goals
    unfold Builtin.append_
    simp only [h0, h1, List.getElem?_toArray, List.getElem?_cons_zero, List.getElem?_cons_succ, Sem.run_bind, run_underlying hd, run_underlying hu, Result.andThen_ok, t2, Sem.run_pure,
      Bool.false_eq_true, if_false, hlen, hgt, t1, false_or]
    simp only [Bool.false_eq_true, false_or] at hmax
    rw [if_neg hmax]
    simp only [Sem.run_bind, run_choose, hq, Bool.false_eq_true, if_false, Result.andThen_ok, run_askRoom, World.drew_eq, t1, hfit, hold, Bool.not_false, if_true, hnew, t3]
    simp only [newRow, Sem.run_bind, run_newObj, Result.andThen_ok, Sem.run_pure, World.alloc_eq]
    rfl

theorem append_fits {argTypes : Array TypeId} {ty sT e uT : TypeId} {i : TypeInfo} {base' : Option Addr} {sLen c' n : Nat} {x' : Value} {new' : List Value}
    (h0 : argTypes[0]? = some sT) (hd : P.underlying sT = some (.slice e)) (hi : P.info? e = some i)
    (h1 : argTypes[1]? = some uT) (hu : P.underlying uT = some .string ∨ ∃ e', P.underlying uT = some (.slice e'))
    (hlen : (Builtin.lenOf x').run P w = .ok n w) (hle : sLen + n ≤ c') (hnew : (Builtin.firstCells (P.cellsOf e) n x').run P w = .ok ⟨new'⟩ w) :
    (Builtin.append_ argTypes ty #[.slice base' sLen c', x']).run P w =
      match base' with
      | some a => ((storeCells (a.add (sLen * P.cellsOf e)) new').run P w).andThen fun _ w' => .ok (.slice base' (sLen + n) c') w'
      | none => .ok (.slice base' (sLen + n) c') w := by
  have t2 : ∀ w', (sizeOf e).run P w' = .ok (P.cellsOf e) w' := fun w' => size_run hi
  rcases hu with hu | ⟨e', hu⟩
  all_goals
    unfold Builtin.append_
    simp only [h0, h1, List.getElem?_toArray, List.getElem?_cons_zero, List.getElem?_cons_succ, Sem.run_bind, run_underlying hd, run_underlying hu, Result.andThen_ok, t2, Sem.run_pure,
      Bool.false_eq_true, if_false, hlen, hle, if_true, Bool.not_false, hnew]
    cases base' <;> simp

/-- A block that is given up. -/
theorem evo_kill (hi : Inv P B ρ h w) {i b : Nat} {s : Nat × Nat} {o0 : Blk} (hbi : h.base ≤ i) (hg : h.get i = some o0) (hr : ρ i = some (b, s)) : Evo P B ρ h w ρ (h.set i none) w := by
  have hget : ∀ j, (h.set i none).get j = if j = i then none else h.get j := fun j => AH.get_set hbi
  have hsome : ∀ j, ((h.set i none).get j).isSome → (h.get j).isSome ∧ j ≠ i := fun j hj => by
    rw [hget] at hj
    by_cases e : j = i
    · rw [if_pos e] at hj; cases hj
    · rw [if_neg e] at hj; exact ⟨hj, e⟩
  refine { ext := Ext.refl _, inv := ?_, un := fun _ _ h => h, keepU := ?_, stay := fun j hj hn => by rw [hget]; split; rfl; exact hn, frame := fun _ _ _ => rfl, range := ?_, base := AH.set_base, oldG := ?_, next := by simp, size := Nat.le_refl _, os := rfl, out := rfl, tape := rfl }
  · refine { blk := ?_, inj := ?_, low := ?_, old := ?_, fresh := ?_, freshG := ?_, glob := hi.glob, size := hi.size, bn := by simp; exact hi.bn }
    · intro j oj gj bj sj rj
      have := hsome j (by rw [gj]; rfl)
      rw [hget, if_neg this.2] at gj
      exact hi.blk j oj gj bj sj rj
    · intro j k bb sj sk hj hk gj gk rj rk
      simp at hj hk
      exact hi.inj j k bb sj sk hj hk (hsome j gj).1 (hsome k gk).1 rj rk
    · intro j bb sj hj gj rj
      simp at hj
      exact hi.low j bb sj hj (hsome j gj).1 rj
    · intro j bb sj hj rj
      simp at hj
      exact hi.old j bb sj hj rj
    · intro j hj
      simp at hj
      exact hi.fresh j hj
    · intro j hj
      simp at hj
      rw [hget]
      split
      · rfl
      · exact hi.freshG j hj
  · intro j hj hn
    rw [hget, if_neg]
    intro e; subst e; rw [hr] at hn; cases hn
  · intro j bb sj hj gj rj _
    exact ⟨j, sj, hj, (hsome j gj).1, rj⟩
  · intro j hj
    rw [hget, if_neg (by omega)]

theorem append_sound (hi : Inv P B ρ h w) {argTypes : Array TypeId} {ty : TypeId} {s x s' x' v : Value} {h' : AH} (hs : VRel ρ s s') (hx : VRel ρ x x') (hv : aappend P h argTypes s x = some (v, h')) :
    ∃ ρ' w' v', Evo P B ρ h w ρ' h' w' ∧ VRel ρ' v v' ∧ (Builtin.append_ argTypes ty #[s', x']).run P w = .ok v' w' := by
  unfold aappend at hv
  split at hv
  · rename_i e base sLen sCap n hd hn
    split at hv
    · cases hv
    · rename_i hxk
      split at hv
      · rename_i z new hz hnew
        obtain ⟨i, zv, hinf, hzero, hzr, hzc, hzl, hzz⟩ := zero_run (w := w) hz
        have hzc' : zv.cells = ⟨z⟩ := by rw [← hzc]
        have hby : i.bytes = P.bytesOf e := by simp [Program.bytesOf, hinf]
        split at hv
        · cases hv
        · rename_i hcell
          simp only [Bool.or_eq_true, Bool.not_eq_true', bne_iff_ne, ne_eq, not_or, Bool.not_eq_false, Decidable.not_not] at hcell
          obtain ⟨hall, hnl⟩ := hcell
          obtain ⟨sT, h0, hd⟩ : ∃ sT, argTypes[0]? = some sT ∧ P.underlying sT = some (.slice e) := by
            cases h0 : argTypes[0]? with
            | none => rw [h0] at hd; cases hd
            | some sT => rw [h0] at hd; exact ⟨sT, rfl, hd⟩
          obtain ⟨uT, h1, hu⟩ : ∃ uT, argTypes[1]? = some uT ∧ (P.underlying uT = some .string ∨ ∃ e', P.underlying uT = some (.slice e')) := by
            unfold srcKind at hxk
            cases h1 : argTypes[1]? with
            | none => simp [h1] at hxk
            | some uT =>
              refine ⟨uT, rfl, ?_⟩
              simp only [h1, Option.bind_some] at hxk
              cases hu : P.underlying uT with
              | none => simp [hu] at hxk
              | some d => rw [hu] at hxk; cases d <;> simp at hxk ⊢
          have hlen := lenOf_run (P := P) (w := w) hx hn
          obtain ⟨new', hnrun, hnrel⟩ := src_run hi hx hnew
          have hnl' := hnrel.length
          have hid : Inv P B ρ h w.drew := hi.of_heap rfl
          split at hv
          · -- there is room
            rename_i hle
            split at hv
            · split at hv
              · rename_i hn0
                cases hv; subst hn0
                simp only [VRel] at hs; subst hs
                refine ⟨ρ, w, .slice none sLen sCap, Evo.refl hi, by simp only [VRel], ?_⟩
                rw [append_fits h0 hd hinf h1 hu hlen (by omega) hnrun]
                simp
              · cases hv
            · rename_i a
              obtain ⟨ai, ao, asp⟩ := a
              split at hv
              · rename_i hn0
                cases hv; subst hn0
                have : new' = [] := List.eq_nil_of_length_eq_zero (by omega)
                subst this
                have hs0 := hs
                cases asp with
                | none =>
                  simp only [VRel] at hs
                  obtain ⟨b, sp, c', hr, hc1, hc2, rfl⟩ := hs
                  refine ⟨ρ, w, _, Evo.refl hi, hs0, ?_⟩
                  rw [append_fits (ty := ty) (base' := some ⟨b, ao + sp.2, none⟩) (sLen := sLen) (c' := c') h0 hd hinf h1 hu hlen (by omega) hnrun]
                  simp [storeCells]
                | some _ =>
                  simp only [VRel] at hs
                  obtain ⟨rfl, rfl, a', c', _, _, rfl⟩ := hs
                  refine ⟨ρ, w, _, Evo.refl hi, hs0, ?_⟩
                  rw [append_fits (ty := ty) (base' := some a') (sLen := 0) (c' := c') h0 hd hinf h1 hu hlen (by omega) hnrun]
                  simp [storeCells]
              · split at hv
                · cases hv
                · rename_i hsp
                  obtain rfl : asp = none := by cases asp with | none => rfl | some _ => exact absurd rfl hsp
                  have hs0 := hs
                  simp only [VRel] at hs
                  obtain ⟨b, sp, c', hr, hc1, hc2, rfl⟩ := hs
                  have hrun := append_fits (ty := ty) (base' := some ⟨b, ao + sp.2, none⟩) (sLen := sLen) (c' := c') h0 hd hinf h1 hu hlen (by omega) hnrun
                  simp only [add_none] at hrun
                  simp only [Option.map_eq_some_iff] at hv
                  obtain ⟨h2, hst, hv⟩ := hv
                  cases hv
                  rw [add_none] at hst
                  obtain ⟨w', hrun2, hevo, _⟩ := store_run hi (a := ⟨ai, ao + sLen * P.cellsOf e, none⟩) hr hst hnrel
                  refine ⟨ρ, w', .slice (some ⟨b, ao + sp.2, none⟩) (sLen + n) c', hevo, ?_, ?_⟩
                  · simp only [VRel]; exact ⟨b, sp, c', hr, hc1, hc2, rfl⟩
                  · rw [hrun]
                    rw [show ao + sLen * P.cellsOf e + sp.2 = ao + sp.2 + sLen * P.cellsOf e by omega] at hrun2
                    rw [hrun2]; rfl
          · rename_i hgt
            split at hv
            · rename_i hbig
              -- what the grown one is
              have grown : ∀ (base' : Option Addr) (c' : Nat) (old old' : List Value) (ρ0 : Rho) (h0' : AH), ¬ sLen + n ≤ c' → LRel ρ old old' → old.length = sLen * P.cellsOf e →
                  (Builtin.firstCells (P.cellsOf e) sLen (.slice base' sLen c')).run P w.drew = .ok ⟨old'⟩ w.drew → Evo P B ρ h w ρ h0' w → h0'.next = h.next →
                  ∃ ρ' w' v', Evo P B ρ h w ρ' (h0'.alloc (.cells (old ++ new) e (0, 0) false)) w' ∧ VRel ρ' (.slice (some ⟨h.next, 0, none⟩) (sLen + n) (sLen + n)) v' ∧ (Builtin.append_ argTypes ty #[.slice base' sLen c', x']).run P w = .ok v' w' := by
                intro base' c' old old' ρ0 h0' hgt' hold hol hor hevo hnx
                obtain ⟨new2, hnrun2, hnrel2⟩ := src_run hid hx hnew
                have hrun := append_grow (ty := ty) (base' := base') (sLen := sLen) (c' := c') h0 hd hinf hzero hzc' h1 hu hlen hgt' (by rw [hby]; exact hbig) hor hnrun2
                have hcap := grownCap_ge w (sLen + n) c' e
                have hol' := hold.length
                have hn2 := hnrel2.length
                refine ⟨_, _, _, hevo.trans (evo_alloc (s := (grownCap w (sLen + n) c' e - (sLen + n), 0)) hevo.inv (o := .cells (old ++ new) e (0, 0) false) (o' := .cells (⟨old'⟩ ++ ⟨new2⟩ ++ Builtin.zeroCells zv.cells (grownCap w (sLen + n) c' e - (sLen + n))) e) (w' := w.drew.alloc (.cells (⟨old'⟩ ++ ⟨new2⟩ ++ Builtin.zeroCells zv.cells (grownCap w (sLen + n) c' e - (sLen + n))) e)) ⟨_, rfl, ?_, ?_, fun hh => by cases hh⟩ rfl rfl rfl rfl), ?_, hrun⟩
                · have e1 : (old ++ new).length = (old' ++ new2).length := by simp only [List.length_append]; omega
                  simp only [Array.toList_append, List.drop_zero]
                  rw [e1, List.take_append_of_le_length (Nat.le_refl _), List.take_length]
                  exact LRel.mono (Ext.upd (hevo.inv.fresh _ (Nat.le_refl _))) _ _ (hold.append hnrel2)
                · have e2 : zv.cells.size = P.cellsOf e := by rw [hzc']; exact hzl
                  simp only [Array.size_append, size_zeroCells, List.size_toArray, List.length_append, e2]
                  omega
                · rw [hnx]
                  simp only [VRel]
                  exact ⟨_, _, _, upd_same, by omega, by simp only; omega, rfl⟩
              split at hv
              · split at hv
                · rename_i hs0
                  subst hs0
                  simp only [VRel] at hs; subst hs
                  simp only [Option.some.injEq, Prod.mk.injEq] at hv
                  obtain ⟨rfl, rfl⟩ := hv
                  have := grown none sCap [] [] ρ h hgt LRel.nil (by simp) (by simp [Builtin.firstCells]) (Evo.refl hi) rfl
                  simpa using this
                · cases hv
              · rename_i a
                obtain ⟨ai, ao, asp⟩ := a
                split at hv
                · rename_i hsp
                  simp only at hsp
                  subst hsp
                  split at hv
                  · rename_i hs0
                    subst hs0
                    simp only [VRel] at hs
                    obtain ⟨_, rfl, a', c', hc0, _, rfl⟩ := hs
                    obtain rfl := hc0 trivial
                    simp only [Option.some.injEq, Prod.mk.injEq] at hv
                    obtain ⟨rfl, rfl⟩ := hv
                    have := grown (some a') 0 [] [] ρ h hgt LRel.nil (by simp) (by simp [Builtin.firstCells, loadCells, loadCellsFrom]) (Evo.refl hi) rfl
                    simpa using this
                  · cases hv
                · split at hv
                  · -- one behind all that is told of its block
                    rename_i hsp
                    simp only at hsp
                    subst hsp
                    split at hv
                    · rename_i c e' fz xx hg
                      split at hv
                      · rename_i hc
                        obtain ⟨rfl, hbase, rfl, hao, rfl, rfl⟩ := hc
                        simp only at hao hbase
                        simp only [Option.some.injEq, Prod.mk.injEq] at hv
                        obtain ⟨rfl, rfl⟩ := hv
                        simp only [VRel] at hs
                        obtain ⟨_, _, a', c', _, hc2, rfl⟩ := hs
                        obtain ⟨b, sp, hr, hsp1, hpos⟩ := hc2 trivial
                        obtain ⟨ob, hob, cc, rfl, hcc, hsz, hx0⟩ := hi.blk _ _ hg b sp hr
                        by_cases hfit : 0 + n ≤ c'
                        · have hn0 : 0 < n := by omega
                          obtain rfl := hpos (by omega)
                          have hb1 : n * P.cellsOf e' ≤ c' * P.cellsOf e' := Nat.mul_le_mul_right _ (by omega)
                          have hb2 : c' * P.cellsOf e' ≤ sp.1 * P.cellsOf e' := Nat.mul_le_mul_right _ hsp1
                          have hone : ∀ v ∈ new', v.oneCell' = true := by
                            intro v hv'
                            obtain ⟨j, hj⟩ := List.getElem?_of_mem hv'
                            have hjl : j < new.length := by
                              have := (List.getElem?_eq_some_iff.1 hj).1
                              omega
                            obtain ⟨u, hu', hru⟩ := hnrel.get (List.getElem?_eq_getElem hjl)
                            rw [hj] at hu'; cases hu'
                            exact hru.oneCell (List.all_eq_true.1 hall _ (List.getElem_mem hjl))
                          obtain ⟨w', hrun2, hheap, hos, hout, htape⟩ := storeCells_run (P := P) (b := b) (e := e') (fz := (0, 0)) rfl new' w cc (ao + sp.2 + 0 * P.cellsOf e') 0 hob hone (by omega)
                          have hrun := append_fits (ty := ty) (base' := some ⟨b, ao + sp.2, none⟩) (sLen := 0) (c' := c') h0 hd hinf h1 hu hlen hfit hnrun
                          simp only [add_none] at hrun
                          have hb3 : (c' - n) * P.cellsOf e' = c' * P.cellsOf e' - n * P.cellsOf e' := by rw [Nat.sub_mul]
                          refine ⟨_, w', .slice (some ⟨b, ao + sp.2, none⟩) (0 + n) c', evo_move hi hbase hg hr (s' := (c' - n, ao + sp.2)) (o := .cells new e' (0, 0) false) ⟨_, rfl, ?_, ?_, fun hh => by cases hh⟩ hheap hos hout htape, ?_, ?_⟩
                          · refine LRel.mono (Ext.upd (hi.fresh _ (Nat.le_refl _))) _ _ ?_
                            have ht : ((splice cc.toList (ao + sp.2 + 0 * P.cellsOf e' + 0) new').drop (ao + sp.2)).take new.length = new' := by
                              unfold splice
                              simp only [Nat.add_zero, Nat.zero_mul]
                              rw [List.append_assoc, List.drop_append_of_le_length (by simp; omega), List.drop_take, Nat.sub_self, List.take_zero, List.nil_append]
                              rw [show new.length = new'.length by omega, List.take_append_of_le_length (Nat.le_refl _), List.take_length]
                            show LRel ρ _ (((splice cc.toList (ao + sp.2 + 0 * P.cellsOf e' + 0) new').drop (ao + sp.2)).take new.length)
                            rw [ht]
                            exact hnrel
                          · show ao + sp.2 + new.length + (c' - n) * P.cellsOf e' ≤ (splice cc.toList (ao + sp.2 + 0 * P.cellsOf e' + 0) new').length
                            simp only [List.length_append, splice, List.length_take, List.length_drop, Array.length_toList]
                            omega
                          · simp only [VRel]
                            exact ⟨b, _, c', upd_same, by omega, by simp only; omega, by simp⟩
                          · rw [hrun, hrun2]; rfl
                        · have := grown (some a') c' [] [] ρ (h.set ai none) hfit LRel.nil (by simp) (by simp [Builtin.firstCells, loadCells, loadCellsFrom]) (evo_kill hi hbase hg hr) (by simp)
                          simpa using this
                      · cases hv
                    · cases hv
                  · split at hv
                    · rename_i old c e' fz xx hold hg
                      split at hv
                      · cases hv
                      · have hs0 := hs
                        obtain rfl : asp = none := by
                          unfold loadCellsAt at hold
                          cases asp with
                          | none => rfl
                          | some _ => simp at hold
                        simp only [VRel] at hs
                        obtain ⟨b, sp, c', hr, hc1, hc2, rfl⟩ := hs
                        obtain ⟨old', horun, horel, _, holen⟩ := loadCells_run hid (a := ⟨ai, ao, none⟩) hr hold
                        have horun' : (Builtin.firstCells (P.cellsOf e) sLen (.slice (some ⟨b, ao + sp.2, none⟩) sLen c')).run P w.drew = .ok ⟨old'⟩ w.drew := horun
                        obtain ⟨ob, hob, cc, rfl, hcc, hsz, hx0⟩ := hi.blk _ _ hg b sp hr
                        split at hv
                        · rename_i hxx
                          simp only [Option.some.injEq, Prod.mk.injEq] at hv
                          obtain ⟨rfl, rfl⟩ := hv
                          have hsp0 : sp.1 = 0 := hx0 hxx
                          exact grown _ c' old old' ρ h (by omega) horel holen horun' (Evo.refl hi) rfl
                        · rename_i hxx
                          split at hv
                          · rename_i hc
                            obtain ⟨rfl, hbase, rfl, hcl⟩ := hc
                            simp only at hcl hbase
                            simp only [Option.some.injEq, Prod.mk.injEq] at hv
                            obtain ⟨rfl, rfl⟩ := hv
                            by_cases hfit : sLen + n ≤ c'
                            · -- there was room behind what is told
                              have hb1 : (sLen + n) * P.cellsOf e' ≤ c' * P.cellsOf e' := Nat.mul_le_mul_right _ hfit
                              have hb2 : c' * P.cellsOf e' ≤ (sCap + sp.1) * P.cellsOf e' := Nat.mul_le_mul_right _ hc2
                              rw [Nat.add_mul] at hb1 hb2
                              have hone : ∀ v ∈ new', v.oneCell' = true := by
                                intro v hv'
                                obtain ⟨j, hj⟩ := List.getElem?_of_mem hv'
                                have hjl : j < new.length := by
                                  have := (List.getElem?_eq_some_iff.1 hj).1
                                  omega
                                obtain ⟨u, hu', hru⟩ := hnrel.get (List.getElem?_eq_getElem hjl)
                                rw [hj] at hu'; cases hu'
                                exact hru.oneCell (List.all_eq_true.1 hall _ (List.getElem_mem hjl))
                              obtain ⟨w', hrun2, hheap, hos, hout, htape⟩ := storeCells_run (P := P) (b := b) (e := e') (fz := (0, 0)) rfl new' w cc (ao + sp.2 + sLen * P.cellsOf e') 0 hob hone (by omega)
                              have hrun := append_fits (ty := ty) (base' := some ⟨b, ao + sp.2, none⟩) (sLen := sLen) (c' := c') h0 hd hinf h1 hu hlen hfit hnrun
                              simp only [add_none] at hrun
                              have hb3 : (c' - (sLen + n)) * P.cellsOf e' = c' * P.cellsOf e' - (sLen * P.cellsOf e' + n * P.cellsOf e') := by rw [Nat.sub_mul, Nat.add_mul]
                              refine ⟨_, w', .slice (some ⟨b, ao + sp.2, none⟩) (sLen + n) c', evo_move hi hbase hg hr (s' := (c' - (sLen + n), ao + sp.2)) (o := .cells (old ++ new) e' (0, 0) false) ⟨_, rfl, ?_, ?_, fun hh => by cases hh⟩ hheap hos hout htape, ?_, ?_⟩
                              · refine LRel.mono (Ext.upd (hi.fresh _ (Nat.le_refl _))) _ _ ?_
                                have hcl' := hcc.length
                                simp only [List.length_take, List.length_drop, Array.length_toList] at hcl'
                                unfold loadCellsAt at hold
                                simp only [Option.isSome_none, Bool.false_eq_true, if_false, hg] at hold
                                split at hold
                                · rename_i hle'
                                  cases hold
                                  have ht : ((splice cc.toList (ao + sp.2 + sLen * P.cellsOf e' + 0) new').drop (ao + sp.2)).take ((c.drop ao).take (sLen * P.cellsOf e') ++ new).length = (cc.toList.drop (ao + sp.2)).take (sLen * P.cellsOf e') ++ new' := by
                                    unfold splice
                                    have e1 : ((c.drop ao).take (sLen * P.cellsOf e') ++ new).length = ((cc.toList.drop (ao + sp.2)).take (sLen * P.cellsOf e') ++ new').length := by
                                      simp only [List.length_append, List.length_take, List.length_drop, Array.length_toList]
                                      omega
                                    rw [e1]
                                    simp only [Nat.add_zero]
                                    rw [List.append_assoc, List.drop_append_of_le_length (by simp; omega), List.drop_take, show ao + sp.2 + sLen * P.cellsOf e' - (ao + sp.2) = sLen * P.cellsOf e' by omega, ← List.append_assoc]
                                    rw [List.take_append_of_le_length (Nat.le_refl _), List.take_length]
                                  show LRel ρ _ (((splice cc.toList (ao + sp.2 + sLen * P.cellsOf e' + 0) new').drop (ao + sp.2)).take ((c.drop ao).take (sLen * P.cellsOf e') ++ new).length)
                                  rw [ht]
                                  refine LRel.append ?_ hnrel
                                  have := (hcc.drop ao).take (sLen * P.cellsOf e')
                                  rw [List.drop_take, List.take_take, List.drop_drop, Nat.min_eq_left (by omega), Nat.add_comm sp.2 ao] at this
                                  exact this
                                · cases hold
                              · show ao + sp.2 + (old ++ new).length + (c' - (sLen + n)) * P.cellsOf e' ≤ (splice cc.toList (ao + sp.2 + sLen * P.cellsOf e' + 0) new').length
                                simp only [List.length_append, splice, List.length_take, List.length_drop, Array.length_toList]
                                omega
                              · simp only [VRel]
                                exact ⟨b, _, c', upd_same, hfit, by simp only; omega, by simp⟩
                              · rw [hrun, hrun2]; rfl
                            · exact grown _ c' old old' ρ (h.set ai none) hfit horel holen horun' (evo_kill hi hbase hg hr) (by simp)
                          · cases hv
                    · cases hv
            · cases hv
      · cases hv
  · cases hv

theorem evo_draw (hi : Inv P B ρ h w) : Evo P B ρ h w ρ h w.drew :=
  { Evo.refl hi with inv := hi.of_heap rfl }

theorem bltin_sound (hi : Inv P B ρ h w) {b : Builtin} {argTypes : Array TypeId} {ty : TypeId} {consts : Array Bool} {args args' : List Value} {v : Value} {h' : AH} (ha : LRel ρ args args') (hv : abuiltin P h b argTypes args = some (v, h')) :
    ∃ ρ' w' v', Evo P B ρ h w ρ' h' w' ∧ VRel ρ' v v' ∧ (builtin b argTypes ty consts ⟨args'⟩).run P w = .ok (.value v') w' := by
  unfold abuiltin at hv
  split at hv
  · -- len
    rename_i x
    simp only [LRel] at ha
    obtain ⟨x', t, hx, rfl, rfl⟩ := ha
    have key : ∀ (t : TypeId) (n : Nat), argTypes[0]? = some t → (Builtin.len_ argTypes ty #[x']).run P w = .ok (goInt n) w → ∃ ρ' w' v', Evo P B ρ h w ρ' h w' ∧ VRel ρ' (.int .i64 n) v' ∧ (builtin .len argTypes ty consts ⟨[x']⟩).run P w = .ok (.value v') w' :=
      fun t n _ hr => ⟨ρ, w, .int .i64 n, Evo.refl hi, by simp only [VRel], by
        show (do pure (Next.value (← Builtin.len_ argTypes ty #[x'])) : Sem Next).run P w = _
        simp only [Sem.run_bind, hr, Result.andThen_ok]; rfl⟩
    cases h0 : argTypes[0]? with
    | none => rw [h0] at hv; simp at hv
    | some t =>
      rw [h0] at hv
      simp only [Option.bind_some] at hv
      split at hv
      · rename_i s hd
        simp only [Option.some.injEq, Prod.mk.injEq] at hv
        obtain ⟨rfl, rfl⟩ := hv
        simp only [VRel] at hx; subst hx
        exact key t _ h0 (by simp [Builtin.len_, h0, run_underlying hd])
      · rename_i n e hd
        simp only [Option.some.injEq, Prod.mk.injEq] at hv
        obtain ⟨rfl, rfl⟩ := hv
        exact key t _ h0 (by simp [Builtin.len_, h0, run_underlying hd])
      · rename_i e hd
        split at hv
        · rename_i n e2 hd2
          simp only [Option.some.injEq, Prod.mk.injEq] at hv
          obtain ⟨rfl, rfl⟩ := hv
          exact key t _ h0 (by simp [Builtin.len_, h0, run_underlying hd, run_underlying hd2])
        · cases hv
      · rename_i e a n c hd
        simp only [Option.some.injEq, Prod.mk.injEq] at hv
        obtain ⟨rfl, rfl⟩ := hv
        cases a with
        | none => simp only [VRel] at hx; subst hx; exact key t _ h0 (by simp [Builtin.len_, h0, run_underlying hd])
        | some a =>
          obtain ⟨_, _, sp⟩ := a
          cases sp with
          | none => simp only [VRel] at hx; obtain ⟨_, _, _, _, _, _, rfl⟩ := hx; exact key t _ h0 (by simp [Builtin.len_, h0, run_underlying hd])
          | some _ => simp only [VRel] at hx; obtain ⟨rfl, _, _, _, _, _, rfl⟩ := hx; exact key t _ h0 (by simp [Builtin.len_, h0, run_underlying hd])
      · cases hv
  · -- append
    rename_i s x
    simp only [LRel] at ha
    obtain ⟨s', _, hs, ⟨x', _, hx, rfl, rfl⟩, rfl⟩ := ha
    obtain ⟨ρ', w', v', h1, h2, h3⟩ := append_sound hi (ty := ty) hs hx hv
    refine ⟨ρ', w', v', h1, h2, ?_⟩
    show (do pure (Next.value (← Builtin.append_ argTypes ty #[s', x'])) : Sem Next).run P w = _
    simp only [Sem.run_bind, h3, Result.andThen_ok]; rfl
  · -- copy
    rename_i d x
    simp only [LRel] at ha
    obtain ⟨d', _, hd', ⟨x', _, hx, rfl, rfl⟩, rfl⟩ := ha
    split at hv
    · rename_i e base dLen dCap m hd hm
      split at hv
      · cases hv
      · rename_i hinf
        obtain ⟨i, hinf⟩ : ∃ i, P.info? e = some i := by cases hh : P.info? e with | none => simp [hh] at hinf | some i => exact ⟨i, rfl⟩
        obtain ⟨sT, h0, hd⟩ : ∃ sT, argTypes[0]? = some sT ∧ P.underlying sT = some (.slice e) := by
          cases h0 : argTypes[0]? with
          | none => rw [h0] at hd; cases hd
          | some sT => rw [h0] at hd; exact ⟨sT, rfl, hd⟩
        have hlen := lenOf_run (P := P) (w := w) hx hm
        split at hv
        · rename_i new hnew
          obtain ⟨new', hnrun, hnrel⟩ := src_run hi hx hnew
          have key : ∀ (base' : Option Addr) (c' : Nat), (Builtin.copy_ argTypes ty #[.slice base' dLen c', x']).run P w =
              match base' with
              | some a => ((storeCells a new').run P w).andThen fun _ w' => .ok (goInt (Nat.min m dLen)) w'
              | none => .ok (goInt (Nat.min m dLen)) w := fun base' c' => by
            cases base' <;> simp [Builtin.copy_, h0, run_underlying hd, hlen, size_run hinf, hnrun]
          split at hv
          · simp only [Option.some.injEq, Prod.mk.injEq] at hv
            obtain ⟨rfl, rfl⟩ := hv
            simp only [VRel] at hd'; subst hd'
            refine ⟨ρ, w, .int .i64 (Nat.min m dLen : Nat), Evo.refl hi, by simp only [VRel], ?_⟩
            show (do pure (Next.value (← Builtin.copy_ argTypes ty #[_, x'])) : Sem Next).run P w = _
            simp only [Sem.run_bind, key, Result.andThen_ok]; rfl
          · rename_i a
            split at hv
            · rename_i hz
              simp only [Option.some.injEq, Prod.mk.injEq] at hv
              obtain ⟨rfl, rfl⟩ := hv
              have hnil : new' = [] := by
                rw [hz] at hnew
                have : new.length = 0 := by
                  unfold srcCells at hnew
                  split at hnew
                  · simp at hnew; subst hnew; rfl
                  · simp at hnew; subst hnew; rfl
                  · simp at hnew; subst hnew; simp
                  · cases hnew
                exact List.eq_nil_of_length_eq_zero (by rw [hnrel.length]; exact this)
              subst hnil
              refine ⟨ρ, w, .int .i64 0, Evo.refl hi, by simp only [VRel], ?_⟩
              obtain ⟨ai, ao, asp⟩ := a
              cases asp with
              | none =>
                simp only [VRel] at hd'; obtain ⟨_, _, c', _, _, _, rfl⟩ := hd'
                show (do pure (Next.value (← Builtin.copy_ argTypes ty #[_, x'])) : Sem Next).run P w = _
                simp only [Sem.run_bind, key, storeCells, Sem.run_pure, Result.andThen_ok, hz]; rfl
              | some _ =>
                simp only [VRel] at hd'; obtain ⟨rfl, _, _, c', _, _, rfl⟩ := hd'
                show (do pure (Next.value (← Builtin.copy_ argTypes ty #[_, x'])) : Sem Next).run P w = _
                simp only [Sem.run_bind, key, storeCells, Sem.run_pure, Result.andThen_ok, hz]; rfl
            · simp only [Option.map_eq_some_iff] at hv
              obtain ⟨h2, hst, hv⟩ := hv
              cases hv
              obtain ⟨ai, ao, asp⟩ := a
              cases asp with
              | none =>
                simp only [VRel] at hd'; obtain ⟨b, sp, c', hr, _, _, rfl⟩ := hd'
                obtain ⟨w', hrun2, hevo, _⟩ := store_run hi (a := ⟨ai, ao, none⟩) hr hst hnrel
                refine ⟨ρ, w', .int .i64 (Nat.min m dLen : Nat), hevo, by simp only [VRel], ?_⟩
                show (do pure (Next.value (← Builtin.copy_ argTypes ty #[_, x'])) : Sem Next).run P w = _
                simp only [Sem.run_bind, key, hrun2, Result.andThen_ok]; rfl
              | some _ => simp [storeCellsAt] at hst
        · cases hv
    · cases hv
  · -- clear
    rename_i x
    simp only [LRel] at ha
    obtain ⟨x', t, hx, rfl, rfl⟩ := ha
    have key : ∀ (w' : World) (h' : AH), Evo P B ρ h w ρ h' w' → (Builtin.clear_ argTypes ty #[x']).run P w = .ok (.tuple #[]) w' → ∃ ρ' w' v', Evo P B ρ h w ρ' h' w' ∧ VRel ρ' (.tuple #[]) v' ∧ (builtin .clear argTypes ty consts ⟨[x']⟩).run P w = .ok (.value v') w' :=
      fun w' h' he hr => ⟨ρ, w', .tuple #[], he, plainV_rel _ (by simp [plainV, plainA, plainL]), by
        show (do pure (Next.value (← Builtin.clear_ argTypes ty #[x'])) : Sem Next).run P w = _
        simp only [Sem.run_bind, hr, Result.andThen_ok]; rfl⟩
    cases h0 : argTypes[0]? with
    | none => rw [h0] at hv; simp at hv
    | some t =>
      rw [h0] at hv
      simp only [Option.bind_some] at hv
      split at hv
      · rename_i d _ _ hd
        simp only [Option.some.injEq, Prod.mk.injEq] at hv
        obtain ⟨rfl, rfl⟩ := hv
        simp only [VRel] at hx; subst hx
        exact key w _ (Evo.refl hi) (by simp [Builtin.clear_, h0, run_underlying hd])
      · rename_i e a n c hd
        obtain ⟨ai, ao, asp⟩ := a
        split at hv
        · rename_i hn
          subst hn
          simp only [Option.some.injEq, Prod.mk.injEq] at hv
          obtain ⟨rfl, rfl⟩ := hv
          cases asp with
          | none =>
            simp only [VRel] at hx; obtain ⟨_, _, c', _, _, _, rfl⟩ := hx
            exact key w _ (Evo.refl hi) (by simp [Builtin.clear_, h0, run_underlying hd])
          | some _ =>
            simp only [VRel] at hx; obtain ⟨_, _, _, c', _, _, rfl⟩ := hx
            exact key w _ (Evo.refl hi) (by simp [Builtin.clear_, h0, run_underlying hd])
        · rename_i hn
          split at hv
          · rename_i z hz
            simp only [Option.map_eq_some_iff] at hv
            obtain ⟨h2, hst, hv⟩ := hv
            cases hv
            obtain ⟨i, zv, hinf, hzero, hzr, hzc, hzl, hzz⟩ := zero_run (w := w) hz
            cases asp with
            | none =>
              simp only [VRel] at hx; obtain ⟨b, sp, c', hr, _, _, rfl⟩ := hx
              obtain ⟨w', hrun2, hevo, _⟩ := store_run hi (a := ⟨ai, ao, none⟩) hr hst (zerosA_rel (hzz ρ) n)
              refine key w' _ hevo ?_
              have hzc' : zv.cells = ⟨z⟩ := by rw [← hzc]
              have hzz' := zeroCells_list hzc' hzl n
              unfold Builtin.clear_
              simp only [h0, List.getElem?_toArray, List.getElem?_cons_zero, Sem.run_bind, run_underlying hd, Result.andThen_ok]
              simp only [hzr, Result.andThen_ok, hzz', hrun2]
              rfl
            | some _ => simp [storeCellsAt] at hst
          · cases hv
      · cases hv
  · -- min
    rename_i k x k' y
    simp only [LRel] at ha
    obtain ⟨x', _, hx, ⟨y', _, hy, rfl, rfl⟩, rfl⟩ := ha
    simp only [VRel] at hx hy; subst hx; subst hy
    simp only [Option.some.injEq, Prod.mk.injEq] at hv
    obtain ⟨rfl, rfl⟩ := hv
    exact ⟨ρ, w, _, Evo.refl hi, by simp only [VRel]; rfl, by simp [builtin, Builtin.min_, Builtin.min2]⟩
  · -- max
    rename_i k x k' y
    simp only [LRel] at ha
    obtain ⟨x', _, hx, ⟨y', _, hy, rfl, rfl⟩, rfl⟩ := ha
    simp only [VRel] at hx hy; subst hx; subst hy
    simp only [Option.some.injEq, Prod.mk.injEq] at hv
    obtain ⟨rfl, rfl⟩ := hv
    exact ⟨ρ, w, _, Evo.refl hi, by simp only [VRel]; rfl, by simp [builtin, Builtin.max_, Builtin.max2]⟩
  · cases hv

end Go.Ab
end
section
namespace Go.Ab

inductive Leave where
  | fell | ret | exit (id : Nat)
structure Out where
  leave : Leave
  ds : List Nat
  env : List Value
  v : Value
inductive Task where
  | todo (fn : FuncId) (ro : Option Nat) (ds : List Nat) (env : List Value) (k : List Item)
  | ops (all : Array Oper) (rest : List Oper) (env : List Value)
  | call (f : FuncId) (args : List Value)
  | round (l : Nat) (args : List Value)

def aeval (P : Program) (env : List Value) : Operand → Value
  | .tmp t => env.getD t undef
  | .const v => if plainV v then v else top
  | .global g => if g < P.globals.size then .pointer (some ⟨g, 0, none⟩) else top
  | .func f => .func (.func f) #[] #[]
def aput (env : List Value) (d : Option Tmp) (v : Value) : List Value :=
  match d with
  | some d => env.set d v
  | none => env
/-- is an operation wanted? (it is not known where its guard's value is not told) -/
def aWanted (all : Array Oper) (env : List Value) (o : Oper) : Option Bool :=
  match o.guard with
  | none => some true
  | some (j, want) =>
    match ((all[j]?).bind (·.dst)).bind (env[·]?) with
    | some (.bool b) => some (b == want)
    | some (.chan _) => none
    | _ => some false
def callable (P : Program) (g : FuncId) : Bool :=
  match P.funcs[g]? with
  | some fn => fn.body.isSome && !(fn.name == "runtime.NumGoroutine")
  | none => false
abbrev Run := Task → AH → Option (Out × AH)
def litBuiltin : Builtin → Bool
  | .len | .min | .max => true
  | _ => false
def isLight (op : Op) : Bool :=
  match op with
  | .call c => (match c.callee with | .builtin b => litBuiltin b | _ => false)
  | op => kindOf op == .light
/-- the value of an operation that makes nothing, and writes nothing -/
def lightVal (P : Program) (ev : Operand → Value) (h : AH) (op : Op) : Option Value :=
  match op with
  | .call c => (match c.callee with | .builtin b => if litBuiltin b then (abuiltin P h b c.argTypes (c.args.toList.map ev)).map (·.1) else none | _ => none)
  | op => alight P ev h op
/-- a store, or a call -/
def heavyStep (P : Program) (R : Run) (ev : Operand → Value) (h : AH) (op : Op) : Option (Value × AH) :=
  match op with
  | .store t a x => match ev a with
    | .pointer (some a) => (astore P h t a (ev x)).map fun h' => (undef, h')
    | _ => none
  | .call c =>
    match c.callee with
    | .builtin b => abuiltin P h b c.argTypes (c.args.toList.map ev)
    | .value f => match ev f with
      | .func (.func g) first captured =>
        if callable P g then (R (.call g (first.toList ++ c.args.toList.map ev ++ captured.toList)) h).map fun r => (r.1.v, r.2) else none
      | .func (.yield l) first _ => (R (.round l (first.toList ++ c.args.toList.map ev)) h).map fun r => (r.1.v, r.2)
      | _ => none
    | .invoke _ _ => none
  | _ => none
def opStep (P : Program) (R : Run) (env : List Value) (h : AH) (op : Op) : Option (Value × AH) :=
  match kindOf op with
  | .light => (alight P (aeval P env) h op).map fun v => (v, h)
  | .alloc => (aalloc P (aeval P env) op).map fun r => (r.2 h.next, h.alloc r.1)
  | .store | .call => heavyStep P R (aeval P env) h op
  | .other => none

/-! ### A region that draws its order -/
def directs (o : Oper) : List Nat := (o.after.toList.filter fun e => Region.binds .any e).map (·.on)
/-- what comes ahead of each, as the bits of a number -/
def maskOf (acc : List Nat) : List Nat → Nat
  | [] => 0
  | j :: l => (1 <<< j) ||| (acc.getD j 0 ||| maskOf acc l)
def predsOf : List Oper → List Nat → List Nat
  | [], acc => acc
  | o :: os, acc => predsOf os (acc ++ [maskOf acc (directs o)])
def opTmps (ops : List Oper) (o : Oper) : List Nat :=
  (o.op.operands.toList.filterMap fun | .tmp t => some t | _ => none) ++
  (match o.guard with | some (j, _) => ((ops[j]?).bind (·.dst)).toList | none => [])
def isHeavy (op : Op) : Bool := (kindOf op == .store || kindOf op == .call) && !isLight op
/-- does 'i' come ahead of 'j' in every order? -/
def ahead (ps : List Nat) (i j : Nat) : Bool := (ps.getD j 0).testBit i
def drawOk (ops : List Oper) : Bool :=
  let ps := predsOf ops []
  let n := ops.length
  let is := List.range n
  (ops.zipIdx.all fun (o, i) => (directs o).all (· < i)) &&
  (ops.all fun o => match o.op with | .select _ _ => false | .defer _ => false | _ => kindOf o.op != .other) &&
  (ops.zipIdx.all fun (o, i) => ops.zipIdx.all fun (p, j) => i == j || (
    (o.dst.isNone || o.dst != p.dst) &&
    (match p.dst with | some d => !(opTmps ops o).contains d || (if j < i then ahead ps j i else ahead ps i j) | none => true) &&
    (!(isHeavy o.op && isHeavy p.op && j < i) || ahead ps j i))) && is.length == n
/-- where an operation that makes nothing may come up otherwise than by the text: ahead of, or behind, a store or a call -/
def floats (ops : List Oper) : List (Nat × Nat) :=
  let ps := predsOf ops []
  let n := ops.length
  let heavy := (List.range n).filter fun i => (ops[i]?).any fun o => isHeavy o.op
  let phases := heavy ++ [n]
  (List.range n).flatMap fun i =>
    if (ops[i]?).any (fun o => isLight o.op) then
      let own := (phases.find? (i < ·)).getD n
      (phases.filter fun p => p != own && heavy.all fun j => if j < p then !ahead ps i j else !ahead ps j i).map fun p => (i, p)
    else []

mutual
def veq : Value → Value → Bool
  | .bool a, .bool b => a == b
  | .int j a, .int k b => j == k && a == b
  | .string a, .string b => a == b
  | .pointer a, .pointer b => a == b
  | .slice a l c, .slice b m d => a == b && l == m && c == d
  | .map a, .map b => a == b
  | .nilFunc, .nilFunc => true
  | .nilIface, .nilIface => true
  | .func f a b, .func g c d => f == g && veqA a c && veqA b d
  | .iface t v, .iface u w => t == u && veq v w
  | .agg a, .agg b => veqA a b
  | .tuple a, .tuple b => veqA a b
  | _, _ => false
def veqA : Array Value → Array Value → Bool
  | ⟨a⟩, b => veqL a b.toList
def veqL : List Value → List Value → Bool
  | [], [] => true
  | a :: l, b :: m => veq a b && veqL l m
  | _, _ => false
end

/-- one operation of the text's order: its new block goes by a number kept for it -/
def drawStep (P : Program) (R : Run) (all : List Oper) (r0 i : Nat) (env : List Value) (h : AH) (o : Oper) : Option (Value × AH) :=
  match aWanted ⟨all⟩ env o with
  | none => none
  | some false => some (undef, h)
  | some true =>
    if isLight o.op then (lightVal P (aeval P env) h o.op).map fun v => (v, h)
    else if kindOf o.op == .alloc then (aalloc P (aeval P env) o.op).map fun r => (r.2 (r0 + i), h.set (r0 + i) (some r.1))
    else heavyStep P R (aeval P env) h o.op
structure Rec where
  env : List Value
  h : AH
  v : Value
def drawText (P : Program) (R : Run) (all : List Oper) (r0 : Nat) : Nat → List Oper → List Value → AH → Option (List Rec × List Value × AH)
  | _, [], env, h => some ([], env, h)
  | i, o :: os, env, h =>
    match drawStep P R all r0 i env h o with
    | some (v, h') => match drawText P R all r0 (i + 1) os (aput env o.dst v) h' with
      | some (rs, e) => some (⟨env, h, v⟩ :: rs, e)
      | none => none
    | none => none
def floatOk (P : Program) (all : List Oper) (rs : List Rec) (hEnd : AH) (x : Nat × Nat) : Bool :=
  match all[x.1]?, rs[x.1]? with
  | some o, some r =>
    match aWanted ⟨all⟩ r.env o with
    | some true => (match lightVal P (aeval P r.env) (match rs[x.2]? with | some q => q.h | none => hEnd) o.op with | some v => veq v r.v | none => false)
    | _ => true
  | _, _ => false
def drawRun (P : Program) (R : Run) (ops : Array Oper) (env : List Value) (h : AH) : Option (List Value × AH) :=
  if drawOk ops.toList && (P.follows .mixedOrders || !Region.departs ops) then
    match drawText P R ops.toList h.next 0 ops.toList env { h with next := h.next + ops.size } with
    | some (rs, env', h') => if (floats ops.toList).all (floatOk P ops.toList rs h') then some (env', h') else none
    | none => none
  else none

/-! ### All of it -/
def closeMarks : List Nat → AH → Option AH
  | [], h => some h
  | d :: ds, h => if h.base ≤ d then (match h.get d with | some (.marks true) => closeMarks ds (h.set d (some (.marks false))) | _ => none) else none
def aresults (P : Program) (h : AH) (env : List Value) : List ResultVar → Option (List Value)
  | [] => some []
  | .tmp t :: rs => (aresults P h env rs).map fun l => env.getD t undef :: l
  | .cell a t :: rs => match env.getD a undef with
    | .pointer (some a) => match aload P h t a, aresults P h env rs with
      | some v, some l => some (v :: l)
      | _, _ => none
    | _ => none
def oneOf (vs : List Value) : Value :=
  match vs with
  | [v] => v
  | vs => .tuple ⟨vs⟩
def setLoop (h : AH) (l : Nat) (st : LoopState) (pending : Option (Option Code)) : Option AH :=
  match h.get l with
  | some (.loop _ p fn tmps ps assign body d) => if h.base ≤ l then some (h.set l (some (.loop st (pending.getD p) fn tmps ps assign body d))) else none
  | _ => none

def runTodo (P : Program) (R : Run) (fn : FuncId) (ro : Option Nat) (ds : List Nat) (env : List Value) (k : List Item) (h : AH) : Option (Out × AH) :=
  match k with
  | [] => some (⟨.fell, ds, env, undef⟩, h)
  | .code c :: k =>
    match c with
    | .skip => R (.todo fn ro ds env k) h
    | .label _ => R (.todo fn ro ds env k) h
    | .seq a b => R (.todo fn ro ds env (.code a :: .code b :: k)) h
    | .cond c t e => match aeval P env c with
      | .bool b => R (.todo fn ro ds env (.code (if b then t else e) :: k)) h
      | _ => none
    | .block id b => R (.todo fn ro ds env (.code b :: .inBlock id :: k)) h
    | .loop b => R (.todo fn ro ds env (.code b :: .inLoop b :: k)) h
    | .scope b => R (.todo fn ro ds env (.code b :: .inScope b :: k)) h
    | .exit id => match exitTo id k with
      | some k' => R (.todo fn ro ds env k') h
      | none => if ro.isSome then some (⟨.exit id, ds, env, undef⟩, h) else none
    | .ret => some (⟨.ret, ds, env, undef⟩, h)
    | .region _ ops false => match R (.ops ops ops.toList env) h with
      | some (o, h') => R (.todo fn ro ds o.env k) h'
      | none => none
    | .region _ ops true => match drawRun P R ops env h with
      | some (env', h') => R (.todo fn ro ds env' k) h'
      | none => none
    | .rangeFunc f ps assign body =>
      match (match ro with
        | none => some (h.next, h.alloc (.marks true), h.next :: ds)
        | some l => match h.get l with
          | some (.loop _ _ _ _ _ _ _ d) => some (d, h, ds)
          | _ => none) with
      | some (d, h1, ds1) =>
        match aeval P env f with
        | .func (.func g) first captured =>
          if callable P g then
            match R (.call g (first.toList ++ [.func (.yield h1.next) #[] #[]] ++ captured.toList)) (h1.alloc (.loop .ready none fn env ps assign body d)) with
            | some (_, h3) =>
              match h3.get h1.next with
              | some (.loop st p _ _ _ _ _ _) =>
                if st = .busy then none else
                match setLoop h3 h1.next .exhausted none with
                | some h4 => R (.todo fn ro ds1 env ((p.map Item.code).toList ++ k)) h4
                | none => none
              | _ => none
            | none => none
          else none
        | _ => none
      | none => none
    | _ => none
  | .inBlock _ :: k => R (.todo fn ro ds env k) h
  | .inScope _ :: k => R (.todo fn ro ds env k) h
  | .inLoop b :: k => R (.todo fn ro ds env (.code b :: .inLoop b :: k)) h
  | .beginRound :: k =>
    match ro with
    | some l => match h.get l with
      | some (.loop .ready _ _ _ _ _ _ _) => match setLoop h l .busy none with
        | some h' => R (.todo fn ro ds env k) h'
        | none => none
      | _ => none
    | none => none
  | _ => none
def runOps (P : Program) (R : Run) (all : Array Oper) (rest : List Oper) (env : List Value) (h : AH) : Option (Out × AH) :=
  match rest with
  | [] => some (⟨.fell, [], env, undef⟩, h)
  | o :: rest =>
    match aWanted all env o with
    | none => none
    | some false => R (.ops all rest (aput env o.dst undef)) h
    | some true => match opStep P R env h o.op with
      | some (v, h') => R (.ops all rest (aput env o.dst v)) h'
      | none => none
/-- what is known of a call: its value; or that it answers what another one does -/
inductive Ans where
  | val (v : Value)
  | fwd (g : FuncId) (args : List Value)
/-- an answer that may be handed on: an integer and a bool -/
def fwdOk : Value → Bool
  | .tuple ⟨[.int .i64 _, .bool _]⟩ => true
  | _ => false
def runCall (P : Program) (K : FuncId → List Value → Option Ans) (R : Run) (f : FuncId) (args : List Value) (h : AH) : Option (Out × AH) :=
  match K f args with
  | some (.val v) => some (⟨.fell, [], [], v⟩, h)
  | some (.fwd g bs) => match R (.call g bs) h with
    | some (o, h1) => if fwdOk o.v then some (⟨.fell, [], [], o.v⟩, h1) else none
    | none => none
  | none =>
    match P.funcs[f]? with
    | some fn =>
      match fn.body with
      | some body =>
        match R (.todo f none [] (args ++ List.replicate (fn.ntmps - args.length) undef) [.code body]) h with
        | some (o, h1) =>
          match o.leave with
          | .exit _ => none
          | _ => match closeMarks o.ds h1 with
            | some h2 => (aresults P h2 o.env fn.results.toList).map fun vs => (⟨.fell, [], [], oneOf vs⟩, h2)
            | none => none
        | none => none
      | none => none
    | none => none
def runRound (R : Run) (l : Nat) (args : List Value) (h : AH) : Option (Out × AH) :=
  match h.get l with
  | some (.loop _ _ fn tmps ps assign body _) =>
    if args.length = ps.size then
      match R (.todo fn (some l) [] ((ps.toList.zip args).foldl (fun t (p, v) => t.set p v) tmps) [.code assign, .beginRound, .code body]) h with
      | some (o, h1) =>
        if o.ds.isEmpty then
          match o.leave with
          | .fell => (setLoop h1 l .ready (some none)).map fun h2 => (⟨.fell, [], [], .bool true⟩, h2)
          | .ret => (setLoop h1 l .done (some (some .ret))).map fun h2 => (⟨.fell, [], [], .bool false⟩, h2)
          | .exit id => (setLoop h1 l .done (some (some (.exit id)))).map fun h2 => (⟨.fell, [], [], .bool false⟩, h2)
        else none
      | none => none
    else none
  | _ => none

def run (P : Program) (K : FuncId → List Value → Option Ans) : Nat → Run
  | 0, _, _ => none
  | n + 1, .todo fn ro ds env k, h => runTodo P (fun t h => run P K n t h) fn ro ds env k h
  | n + 1, .ops all rest env, h => runOps P (fun t h => run P K n t h) all rest env h
  | n + 1, .call f args, h => runCall P K (fun t h => run P K n t h) f args h
  | n + 1, .round l args, h => runRound (fun t h => run P K n t h) l args h

end Go.Ab
end
section
namespace Go.Ab
open Go.RowKit
variable {P : Program} {B : Nat} {ρ : Rho} {h : AH} {w : World}

/-! ### The frame -/
theorem aeval_rel (hi : Inv P B ρ h w) {env : List Value} {a : Act} (he : LRel ρ env a.tmps.toList) (x : Operand) : VRel ρ (aeval P env x) (a.eval x) := by
  cases x with
  | tmp t =>
    have := he.getD t
    simpa [aeval, Act.eval, List.getD_eq_getElem?_getD] using this
  | const v =>
    simp only [aeval, Act.eval]
    split
    · rename_i hp; exact plainV_rel v hp
    · simp only [top, VRel]
  | global g =>
    simp only [aeval, Act.eval]
    split
    · rename_i hg; simp only [VRel]; exact ⟨g, (0, 0), hi.glob g hg, rfl⟩
    · simp only [top, VRel]
  | func f =>
    simp only [aeval, Act.eval, VRel, FRel]
    exact ⟨_, _, _, rfl, by simp only [ARel]; exact LRel.nil, by simp only [ARel]; exact LRel.nil, rfl⟩
theorem aput_rel {env : List Value} {a : Act} {v v' : Value} (d : Option Tmp) (he : LRel ρ env a.tmps.toList) (hv : VRel ρ v v') : LRel ρ (aput env d v) (a.put d v').tmps.toList := by
  cases d with
  | none => exact he
  | some d => simpa [aput, Act.put] using he.set d hv
theorem put_defers {a : Act} {d : Option Tmp} {v : Value} : (a.put d v).defers = a.defers := by cases d <;> rfl
theorem undef_rel : VRel ρ undef undef := plainV_rel undef (by simp [undef, plainV, plainA, plainL])
theorem wanted_rel {all : Array Oper} {env : List Value} {a : Act} {o : Oper} {t : Bool} (he : LRel ρ env a.tmps.toList) (hw : aWanted all env o = some t) : Region.wanted o (yielded all a.tmps) = t := by
  unfold aWanted at hw
  unfold Region.wanted yielded
  split at hw
  · rename_i hg; rw [hg]; cases hw; rfl
  · rename_i j want hg
    rw [hg]
    simp only
    cases hd : (all[j]?).bind (·.dst) with
    | none => rw [hd] at hw; simp at hw; subst hw; rfl
    | some d =>
      rw [hd] at hw
      simp only [Option.bind_some] at hw ⊢
      cases hv : env[d]? with
      | none =>
        have := he.get_none hv
        rw [hv] at hw; simp at hw; subst hw
        have h2 : a.tmps[d]? = none := by simpa using this
        rw [h2]; rfl
      | some v =>
        obtain ⟨v', hv', hr⟩ := he.get hv
        have h2 : a.tmps[d]? = some v' := by simpa using hv'
        rw [hv] at hw
        rw [h2]
        cases v with
        | bool b => simp only [VRel] at hr; subst hr; simp at hw; subst hw; simp
        | chan r => simp at hw
        | agg cs => simp only [VRel] at hr; obtain ⟨_, _, rfl⟩ := hr; simp at hw; subst hw; rfl
        | tuple cs => simp only [VRel] at hr; obtain ⟨_, _, rfl⟩ := hr; simp at hw; subst hw; rfl
        | iface u x => simp only [VRel] at hr; obtain ⟨_, _, rfl⟩ := hr; simp at hw; subst hw; rfl
        | func fn f c => simp only [VRel] at hr; obtain ⟨_, _, _, _, _, _, rfl⟩ := hr; simp at hw; subst hw; rfl
        | pointer p => cases p with
          | none => simp only [VRel] at hr; subst hr; simp at hw; subst hw; rfl
          | some p => simp only [VRel] at hr; obtain ⟨_, _, _, rfl⟩ := hr; simp at hw; subst hw; rfl
        | map p => cases p with
          | none => simp only [VRel] at hr; subst hr; simp at hw; subst hw; rfl
          | some p => simp only [VRel] at hr; obtain ⟨_, _, _, rfl⟩ := hr; simp at hw; subst hw; rfl
        | slice p _ _ => cases p with
          | none => simp only [VRel] at hr; subst hr; simp at hw; subst hw; rfl
          | some p =>
            obtain ⟨_, _, sp⟩ := p
            cases sp with
            | none => simp only [VRel] at hr; obtain ⟨_, _, _, _, _, _, rfl⟩ := hr; simp at hw; subst hw; rfl
            | some _ => simp only [VRel] at hr; obtain ⟨_, _, _, _, _, _, rfl⟩ := hr; simp at hw; subst hw; rfl
        | _ => simp only [VRel] at hr; subst hr; simp at hw; subst hw; rfl

/-! ### The model's steps at an operation -/
section steps
variable {b : Frame} {a : Act} {k : List Item} {cs : List Frame} {all : Array Oper} {i : Nat} {is : List Nat} {o : Oper}
theorem stepV (ho : all[i]? = some o) (hw : Region.wanted o (yielded all a.tmps) = true) (hd : ∀ c, o.op ≠ .defer c) {v : Value} {w w' : World} (hr : (execOp a.eval o).run P w = .ok (.value v) w') :
    step P (lone (b.atR a (.inRegion all (i :: is) :: k)) cs w) = .next (lone (b.atR (a.put o.dst v) (.inRegion all is :: k)) cs w') := by
  refine step_lone_go ?_
  rw [stepGR_op ho hw, Oper.semAt_eq _ _ _ hd]
  simp [stepG.apply, Sem.runT_eq, hr, GStep.bare_after, Frame.finish_atR, ho]
theorem stepS (ho : all[i]? = some o) (hw : Region.wanted o (yielded all a.tmps) = true) (hd : ∀ c, o.op ≠ .defer c) {w w' : World} (hr : (execOp a.eval o).run P w = .ok .skip w') :
    step P (lone (b.atR a (.inRegion all (i :: is) :: k)) cs w) = .next (lone (b.atR (a.put o.dst undef) (.inRegion all is :: k)) cs w') := by
  refine step_lone_go ?_
  rw [stepGR_op ho hw, Oper.semAt_eq _ _ _ hd]
  simp [stepG.apply, Sem.runT_eq, hr, GStep.bare_after, Frame.finish_atR, ho]
theorem stepE (ho : all[i]? = some o) (hw : Region.wanted o (yielded all a.tmps) = true) (hd : ∀ c, o.op ≠ .defer c) {f : FuncId} {args : Array Value} {w w' : World} (hr : (execOp a.eval o).run P w = .ok (.enter f args) w') :
    step P (lone (b.atR a (.inRegion all (i :: is) :: k)) cs w) = .next (lone (Frame.enter P f args .normal) (b.atR a (.inRegion all (i :: is) :: k) :: cs) w') := by
  refine step_lone_go ?_
  rw [stepGR_op ho hw, Oper.semAt_eq _ _ _ hd]
  simp [stepG.apply, Sem.runT_eq, hr, GStep.bare_after, Frame.atR]
theorem stepRd (ho : all[i]? = some o) (hw : Region.wanted o (yielded all a.tmps) = true) (hd : ∀ c, o.op ≠ .defer c) {l : Nat} {f : FuncId} {tmps : Array Value} {as bd : Code} {w w' : World} (hr : (execOp a.eval o).run P w = .ok (.round l f tmps as bd) w') :
    step P (lone (b.atR a (.inRegion all (i :: is) :: k)) cs w) = .next (lone (Frame.round l f tmps as bd .normal) (b.atR a (.inRegion all (i :: is) :: k) :: cs) w') := by
  refine step_lone_go ?_
  rw [stepGR_op ho hw, Oper.semAt_eq _ _ _ hd]
  simp [stepG.apply, Sem.runT_eq, hr, GStep.bare_after, Frame.atR]
end steps

/-! ### What a run of the abstract machine says of the model's -/
def RoRel (ρ : Rho) : Option Nat → Option Nat → Prop
  | none, r => r = none
  | some l, r => ∃ b s, ρ l = some (b, s) ∧ r = some b
def DRel (ρ : Rho) : List Nat → List Deferred → Prop
  | [], ds => ds = []
  | d :: l, ds => ∃ b s t, ρ d = some (b, s) ∧ DRel ρ l t ∧ ds = { target := .collected b, args := #[] } :: t
theorem RoRel.mono {ρ ρ' : Rho} (h : Ext ρ ρ') {r r' : Option Nat} (k : RoRel ρ r r') : RoRel ρ' r r' := by
  cases r with
  | none => exact k
  | some l => obtain ⟨b, s, h1, h2⟩ := k; exact ⟨b, s, h _ _ h1, h2⟩
theorem DRel.mono {ρ ρ' : Rho} (h : Ext ρ ρ') : ∀ {l : List Nat} {ds : List Deferred}, DRel ρ l ds → DRel ρ' l ds
  | [], _, k => k
  | _ :: _, _, ⟨b, s, t, h1, h2, h3⟩ => ⟨b, s, t, h _ _ h1, DRel.mono h h2, h3⟩
def LeaveK : Leave → List Item → Prop
  | .fell, k => k = []
  | .ret, k => ∃ k2, k = .code .ret :: k2
  | .exit id, k => ∃ k2, k = .code (.exit id) :: k2 ∧ exitTo id k2 = none
def OpsAt (all : Array Oper) : List Nat → List Oper → Prop
  | [], [] => True
  | i :: is, o :: os => all[i]? = some o ∧ OpsAt all is os
  | _, _ => False

/-- 'w'' is 'w' but for the blocks from 'a' to below 'b', and new ones -/
structure Garb (a b : Nat) (w w' : World) : Prop where
  keep : ∀ i, i < w.heap.size → (i < a ∨ b ≤ i) → w'.heap[i]? = w.heap[i]?
  size : w.heap.size ≤ w'.heap.size
  os : w'.os = w.os
  out : w'.output = w.output
  tape : w'.tape = w.tape
/-- no block from 'a' on is another one -/
structure Keeps (a : Nat) (w w' : World) : Prop where
  keep : ∀ i, a ≤ i → i < w.heap.size → w'.heap[i]? = w.heap[i]?
  size : w.heap.size ≤ w'.heap.size
  os : w'.os = w.os
  out : w'.output = w.output
  tape : w'.tape = w.tape
/-- What is known besides of the world: of blocks below 'B' alone. -/
structure Ctx (P : Program) (B : Nat) (K : FuncId → List Value → Option Ans) where
  G : World → Prop
  keep : ∀ w w', Below B w w' → G w → G w'
  call : ∀ f args v w, K f args = some (.val v) → G w → plainL args = true ∧ plainV v = true ∧ Calls P f ⟨args⟩ w fun e w' => e = .returned v ∧ Below w.heap.size w w'
  fwd : ∀ f args g bs, K f args = some (.fwd g bs) → ∀ (ρ : Rho) (args' : List Value) (w : World), LRel ρ args args' → G w →
    ∃ (bs' : List Value) (w1 : World), LRel ρ bs bs' ∧ Below w.heap.size w w1 ∧ ∀ (v : Value) (S : World → Prop), fwdOk v = true →
      Calls P g ⟨bs'⟩ w1 (fun e w' => e = .returned v ∧ Keeps w.heap.size w1 w' ∧ S w') →
        Calls P f ⟨args'⟩ w (fun e w' => e = .returned v ∧ ∃ w2, S w2 ∧ Garb w.heap.size w1.heap.size w2 w')

variable {K : FuncId → List Value → Option Ans}

def SimCall (C : Ctx P B K) (f : FuncId) (args : List Value) (h : AH) (v : Value) (h' : AH) : Prop :=
  ∀ (ρ : Rho) (w : World) (args' : List Value), Inv P B ρ h w → C.G w → LRel ρ args args' →
    Calls P f ⟨args'⟩ w fun e w' => ∃ ρ' v', e = .returned v' ∧ VRel ρ' v v' ∧ Evo P B ρ h w ρ' h' w'
def SimRound (C : Ctx P B K) (l : Nat) (args : List Value) (h : AH) (v : Value) (h' : AH) : Prop :=
  ∀ (ρ : Rho) (w : World) (args' : List Value) (lb : Nat) (s : Nat × Nat), Inv P B ρ h w → C.G w → LRel ρ args args' → ρ l = some (lb, s) →
    ∃ f tmps as bd, (Instr.yield lb ⟨args'⟩).run P w = .ok (.round lb f tmps as bd) w ∧
      ∀ (c : Frame) (cs : List Frame), ∃ ρ' v' w', VRel ρ' v v' ∧ Evo P B ρ h w ρ' h' w' ∧ Steps P (lone (Frame.round lb f tmps as bd .normal) (c :: cs) w) (lone (c.finish v') cs w')
def SimTodo (C : Ctx P B K) (fn : FuncId) (ro : Option Nat) (ds : List Nat) (env : List Value) (k : List Item) (h : AH) (out : Out) (h' : AH) : Prop :=
  ∀ (ρ : Rho) (w : World) (b : Frame) (a : Act) (cs : List Frame), Inv P B ρ h w → C.G w → b.fn = fn → RoRel ρ ro b.roundOf → LRel ρ env a.tmps.toList → DRel ρ ds a.defers →
    ∃ ρ' w' a' k', Evo P B ρ h w ρ' h' w' ∧ LRel ρ' out.env a'.tmps.toList ∧ DRel ρ' out.ds a'.defers ∧ Steps P (lone (b.atR a k) cs w) (lone (b.atR a' k') cs w') ∧ LeaveK out.leave k'
def SimOps (C : Ctx P B K) (all : Array Oper) (rest : List Oper) (env : List Value) (h : AH) (out : Out) (h' : AH) : Prop :=
  ∀ (ρ : Rho) (w : World) (b : Frame) (a : Act) (cs : List Frame) (is : List Nat) (k : List Item), Inv P B ρ h w → C.G w → LRel ρ env a.tmps.toList → OpsAt all is rest →
    ∃ ρ' w' a', Evo P B ρ h w ρ' h' w' ∧ LRel ρ' out.env a'.tmps.toList ∧ a'.defers = a.defers ∧ Steps P (lone (b.atR a (.inRegion all is :: k)) cs w) (lone (b.atR a' (.inRegion all [] :: k)) cs w')
def Sim (C : Ctx P B K) : Task → AH → Out → AH → Prop
  | .todo fn ro ds env k, h, out, h' => SimTodo C fn ro ds env k h out h'
  | .ops all rest env, h, out, h' => SimOps C all rest env h out h'
  | .call f args, h, out, h' => SimCall C f args h out.v h'
  | .round l args, h, out, h' => SimRound C l args h out.v h'
def RunOk (C : Ctx P B K) (R : Run) : Prop := ∀ t h out h', R t h = some (out, h') → Sim C t h out h'

theorem Evo.G (C : Ctx P B K) (hi : Inv P B ρ h w) {ρ' : Rho} {h' : AH} {w' : World} (e : Evo P B ρ h w ρ' h' w') (hg : C.G w) : C.G w' := C.keep _ _ (e.below hi) hg

/-- ONE OPERATION, AT THE MODEL. -/
def OpDone (P : Program) (B : Nat) (ρ : Rho) (h : AH) (w : World) (b : Frame) (a : Act) (all : Array Oper) (i : Nat) (is : List Nat) (k : List Item) (cs : List Frame) (o : Oper) (v : Value) (h' : AH) : Prop :=
  ∃ ρ' w' v', Evo P B ρ h w ρ' h' w' ∧ VRel ρ' v v' ∧ Steps P (lone (b.atR a (.inRegion all (i :: is) :: k)) cs w) (lone (b.atR (a.put o.dst v') (.inRegion all is :: k)) cs w')

theorem callable_run {g : FuncId} (hc : callable P g = true) (args : Array Value) : (callFunc g args).run P w = .ok (.enter g args) w := by
  unfold callable at hc
  cases hf : P.funcs[g]? with
  | none => simp [hf] at hc
  | some fn =>
    rw [hf] at hc
    simp only [Bool.and_eq_true, Bool.not_eq_true'] at hc
    have hb : fn.body.isNone = false := by cases hb : fn.body with | none => rw [hb] at hc; cases hc.1 | some _ => rfl
    simp only [callFunc, Sem.run_bind, run_program, Result.andThen_ok, hf, hc.2, Bool.false_eq_true, if_false, hb, Sem.run_pure]

theorem heavy_sound (C : Ctx P B K) {R : Run} (hR : RunOk C R) (hi : Inv P B ρ h w) (hg : C.G w) {ev : Operand → Value} {b : Frame} {a : Act} (hev : ∀ x, VRel ρ (ev x) (a.eval x)) {all : Array Oper} {i : Nat} {is : List Nat}
    (k : List Item) (cs : List Frame) {o : Oper} (ho : all[i]? = some o) (hw : Region.wanted o (yielded all a.tmps) = true) {v : Value} {h' : AH} (hv : heavyStep P R ev h o.op = some (v, h')) :
    OpDone P B ρ h w b a all i is k cs o v h' := by
  obtain ⟨dst, op, ty, pos, after, guard⟩ := o
  simp only at hv
  unfold heavyStep at hv
  split at hv
  · -- a store
    rename_i t x y
    split at hv
    · rename_i ad hx
      simp only [Option.map_eq_some_iff] at hv
      obtain ⟨h2, hst, hv⟩ := hv
      cases hv
      have h1 := hev x
      rw [hx] at h1
      obtain ⟨w', hr, hevo⟩ := store_sound hi h1 (hev y) hst
      refine ⟨ρ, w', undef, hevo, undef_rel, .one (stepS ho hw (fun c hc => by cases hc) ?_)⟩
      simp [execOp, hr]
    · cases hv
  · rename_i c
    obtain ⟨callee, args, argTypes⟩ := c
    simp only at hv
    split at hv
    · -- a builtin
      rename_i bi
      obtain ⟨ρ', w', v', hevo, hrel, hr⟩ := bltin_sound (ty := ty) (consts := args.map fun | .const _ => true | _ => false) (args' := args.toList.map a.eval) hi (LRel.map_ev hev _) hv
      refine ⟨ρ', w', v', hevo, hrel, .one (stepV ho hw (fun c hc => by cases hc) ?_)⟩
      have : args.map a.eval = ⟨args.toList.map a.eval⟩ := Array.ext' (by simp)
      simp only [execOp, resolve, Sem.run_bind, Sem.run_pure, Result.andThen_ok, invoke]
      rw [this]
      exact hr
    · rename_i f
      split at hv
      · -- a function
        rename_i g first captured hf
        split at hv
        · rename_i hcal
          simp only [Option.map_eq_some_iff] at hv
          obtain ⟨⟨out, h2⟩, hrun, hv⟩ := hv
          cases hv
          have h1 := hev f
          rw [hf] at h1
          simp only [VRel, FRel] at h1
          obtain ⟨_, fs', cs', rfl, hfs, hcs, hfe⟩ := h1
          have hargs : LRel ρ (first.toList ++ args.toList.map ev ++ captured.toList) (fs'.toList ++ args.toList.map a.eval ++ cs'.toList) :=
            ((ARel_iff.1 hfs).append (LRel.map_ev hev _)).append (ARel_iff.1 hcs)
          have hcall := hR _ _ _ _ hrun ρ w _ hi hg hargs (b.atR a (.inRegion all (i :: is) :: k) :: cs)
          obtain ⟨e, w', fr, ⟨ρ', v', rfl, hrel, hevo⟩, hcomes, _, hleave⟩ := hcall
          refine ⟨ρ', w', v', hevo, hrel, ?_⟩
          have hent : (execOp a.eval { dst := dst, op := .call { callee := .value f, args := args, argTypes := argTypes }, type := ty, pos := pos, after := after, guard := guard }).run P w = .ok (.enter g ⟨fs'.toList ++ args.toList.map a.eval ++ cs'.toList⟩) w := by
            simp only [execOp, resolve, Sem.run_bind, hfe, Deferred.ofValue, Sem.run_pure, Result.andThen_ok, invoke, callable_run hcal]
            congr 3
            exact Array.ext' (by simp)
          refine .head (stepE ho hw (fun c hc => by cases hc) hent) (Steps.trans hcomes (.one ?_))
          rw [step_leave_returned hleave, Frame.finish_atR, ho]
          rfl
        · cases hv
      · -- yield
        rename_i l first captured hf
        simp only [Option.map_eq_some_iff] at hv
        obtain ⟨⟨out, h2⟩, hrun, hv⟩ := hv
        cases hv
        have h1 := hev f
        rw [hf] at h1
        simp only [VRel, FRel] at h1
        obtain ⟨_, fs', cs', ⟨lb, s, hl, rfl⟩, hfs, hcs, hfe⟩ := h1
        have hargs : LRel ρ (first.toList ++ args.toList.map ev) (fs'.toList ++ args.toList.map a.eval) :=
          (ARel_iff.1 hfs).append (LRel.map_ev hev _)
        obtain ⟨fn, tmps, as, bd, hy, hround⟩ := hR _ _ _ _ hrun ρ w _ lb s hi hg hargs hl
        obtain ⟨ρ', v', w', hrel, hevo, hsteps⟩ := hround (b.atR a (.inRegion all (i :: is) :: k)) cs
        refine ⟨ρ', w', v', hevo, hrel, ?_⟩
        have hent : (execOp a.eval { dst := dst, op := .call { callee := .value f, args := args, argTypes := argTypes }, type := ty, pos := pos, after := after, guard := guard }).run P w = .ok (.round lb fn tmps as bd) w := by
          simp only [execOp, resolve, Sem.run_bind, hfe, Deferred.ofValue, Sem.run_pure, Result.andThen_ok, invoke]
          have : fs' ++ args.map a.eval = ⟨fs'.toList ++ args.toList.map a.eval⟩ := Array.ext' (by simp)
          rw [this]
          exact hy
        have hs := Steps.head (stepRd ho hw (fun c hc => by cases hc) hent) hsteps
        rw [Frame.finish_atR, ho] at hs
        exact hs
      · cases hv
    · cases hv
  · cases hv

theorem kind_not_defer {op : Op} (h : kindOf op ≠ .other) : ∀ c, op ≠ .defer c := by
  intro c hc
  subst hc
  exact h rfl

theorem opStep_sound (C : Ctx P B K) {R : Run} (hR : RunOk C R) (hi : Inv P B ρ h w) (hg : C.G w) {env : List Value} {b : Frame} {a : Act} (he : LRel ρ env a.tmps.toList) {all : Array Oper} {i : Nat} {is : List Nat}
    (k : List Item) (cs : List Frame) {o : Oper} (ho : all[i]? = some o) (hw : Region.wanted o (yielded all a.tmps) = true) {v : Value} {h' : AH} (hv : opStep P R env h o.op = some (v, h')) :
    OpDone P B ρ h w b a all i is k cs o v h' := by
  have hev := aeval_rel hi he
  unfold opStep at hv
  split at hv
  · rename_i hk
    simp only [Option.map_eq_some_iff] at hv
    obtain ⟨u, hu, hv⟩ := hv
    cases hv
    obtain ⟨v', hr, hrel⟩ := light_sound hi hev o hu
    exact ⟨ρ, w, v', Evo.refl hi, hrel, .one (stepV ho hw (kind_not_defer (by rw [hk]; simp)) hr)⟩
  · rename_i hk
    simp only [Option.map_eq_some_iff] at hv
    obtain ⟨⟨bl, f⟩, hu, hv⟩ := hv
    cases hv
    obtain ⟨o', g, hb, hr, hval⟩ := alloc_sound (P := P) (w := w) hev o hu
    have hb' : BRel P (upd ρ h.next (w.heap.size, (0, 0))) (0, 0) bl o' := hb.mono (Ext.upd (hi.fresh _ (Nat.le_refl _)))
    exact ⟨_, w.alloc o', g w.heap.size, evo_alloc hi hb' rfl rfl rfl rfl, hval _ _ (0, 0) rfl upd_same, .one (stepV ho hw (kind_not_defer (by rw [hk]; simp)) hr)⟩
  · exact heavy_sound C hR hi hg hev k cs ho hw hv
  · exact heavy_sound C hR hi hg hev k cs ho hw hv
  · cases hv

theorem ops_sound (C : Ctx P B K) {R : Run} (hR : RunOk C R) {all : Array Oper} {rest : List Oper} {env : List Value} {h : AH} {out : Out} {h' : AH}
    (hr : runOps P R all rest env h = some (out, h')) : SimOps C all rest env h out h' := by
  intro ρ w b a cs is k hi hg he hat
  unfold runOps at hr
  split at hr
  · cases hr
    cases is with
    | nil => exact ⟨ρ, w, a, Evo.refl hi, he, rfl, Steps.refl _ _⟩
    | cons i is => exact hat.elim
  · rename_i o rest
    cases is with
    | nil => exact hat.elim
    | cons i is =>
      obtain ⟨ho, hat⟩ := hat
      split at hr
      · cases hr
      · rename_i hw
        have hw' := wanted_rel he hw
        obtain ⟨ρ', w', a', h1, h2, h3, h4⟩ := hR _ _ _ _ hr ρ w b (a.put o.dst undef) cs is k hi hg (aput_rel _ he undef_rel) hat
        refine ⟨ρ', w', a', h1, h2, h3.trans put_defers, .head ?_ h4⟩
        have := stepR_op_skip (P := P) (b := b) (a := a) (k := k) (cs := cs) (w := w) (ops := all) (i := i) (rest := is) (by rw [ho]; simpa using hw')
        rw [ho] at this
        exact this
      · rename_i hw
        have hw' := wanted_rel he hw
        split at hr
        · rename_i v h2 hst
          obtain ⟨ρ1, w1, v1, e1, r1, s1⟩ := opStep_sound C hR hi hg he k cs ho hw' (b := b) (is := is) hst
          obtain ⟨ρ', w', a', g1, g2, g3, g4⟩ := hR _ _ _ _ hr ρ1 w1 b (a.put o.dst v1) cs is k e1.inv (e1.G C hi hg) (aput_rel _ (LRel.mono e1.ext _ _ he) r1) hat
          exact ⟨ρ', w', a', e1.trans g1, g2, g3.trans put_defers, s1.trans g4⟩
        · cases hr

end Go.Ab
end
section
namespace Go.Ab
open Go.RowKit
variable {P : Program} {B : Nat} {ρ : Rho} {h : AH} {w : World} {K : FuncId → List Value → Option Ans}

theorem evo_of_below (hi : Inv P B ρ h w) {w' : World} (hb : Below w.heap.size w w') : Evo P B ρ h w ρ h w' :=
  { Evo.refl hi with
    inv := {
      blk := fun i o hg b s hr => by
        obtain ⟨o', h1, h2⟩ := hi.blk i o hg b s hr
        exact ⟨o', (hb.block b (Array.getElem?_eq_some_iff.1 h1).1).trans h1, h2⟩
      inj := hi.inj, low := hi.low, old := hi.old, fresh := hi.fresh, freshG := hi.freshG, glob := hi.glob, size := Nat.le_trans hi.size hb.size, bn := hi.bn }
    frame := fun b hlt _ => hb.block b hlt
    size := hb.size
    os := hb.os
    out := hb.output
    tape := hb.tape }

theorem evo_garb (hi : Inv P B ρ h w) {w1 w2 w' : World} (hbel : Below w.heap.size w w1) {ρ' : Rho} {h' : AH} (hev : Evo P B ρ h w1 ρ' h' w2) (hga : Garb w.heap.size w1.heap.size w2 w') : Evo P B ρ h w ρ' h' w' := by
  have hlow : ∀ j b s, (h.get j).isSome → ρ j = some (b, s) → b < w.heap.size := fun j b s hs hr => by
    obtain ⟨oj, hoj⟩ := Option.isSome_iff_exists.1 hs
    obtain ⟨o', ho', _⟩ := hi.blk j oj hoj b s hr
    exact (Array.getElem?_eq_some_iff.1 ho').1
  exact { hev with
    inv := { hev.inv with
      blk := fun i o hg b s hr => by
        obtain ⟨o', h1, h2⟩ := hev.inv.blk i o hg b s hr
        have hb2 := (Array.getElem?_eq_some_iff.1 h1).1
        refine ⟨o', ?_, h2⟩
        rw [hga.keep b hb2]
        · exact h1
        · rcases Nat.lt_or_ge i h.base with hib | hib
          · left
            have := hev.inv.old i b s (by rw [hev.base]; exact hib) hr
            have := hi.size
            omega
          · rcases Nat.lt_or_ge b w1.heap.size with hb | hb
            · left
              obtain ⟨j, s', hj, hjs, hjr⟩ := hev.range i b s hib (by rw [hg]; rfl) hr hb
              exact hlow j b s' hjs hjr
            · exact .inr hb
      size := Nat.le_trans hev.inv.size hga.size }
    frame := fun b hb hn => by
      rw [hga.keep b (Nat.lt_of_lt_of_le hb (Nat.le_trans hbel.size hev.size)) (.inl hb), hev.frame b (Nat.lt_of_lt_of_le hb hbel.size) hn, hbel.block b hb]
    range := fun i b s h1 h2 h3 hb => hev.range i b s h1 h2 h3 (Nat.lt_of_lt_of_le hb hbel.size)
    size := Nat.le_trans hbel.size (Nat.le_trans hev.size hga.size)
    os := by rw [hga.os, hev.os, hbel.os]
    out := by rw [hga.out, hev.out, hbel.output]
    tape := by rw [hga.tape, hev.tape, hbel.tape] }

mutual
theorem plainV_eq {ρ : Rho} : ∀ (v v' : Value), plainV v = true → VRel ρ v v' → v' = v
  | .bool _, _, _, k => by simp only [VRel] at k; exact k
  | .int _ _, _, _, k => by simp only [VRel] at k; exact k
  | .float _ _, _, _, k => by simp only [VRel] at k; exact k
  | .complex _ _ _, _, _, k => by simp only [VRel] at k; exact k
  | .string _, _, _, k => by simp only [VRel] at k; exact k
  | .pointer none, _, _, k => by simp only [VRel] at k; exact k
  | .pointer (some _), _, h, _ => by simp [plainV] at h
  | .slice none _ _, _, _, k => by simp only [VRel] at k; exact k
  | .slice (some _) _ _, _, h, _ => by simp [plainV] at h
  | .map none, _, _, k => by simp only [VRel] at k; exact k
  | .map (some _), _, h, _ => by simp [plainV] at h
  | .chan _, _, h, _ => by simp [plainV] at h
  | .func _ _ _, _, h, _ => by simp [plainV] at h
  | .nilFunc, _, _, k => by simp only [VRel] at k; exact k
  | .iface _ v, _, h, k => by
    simp only [VRel] at k; simp only [plainV] at h
    obtain ⟨u, hu, rfl⟩ := k
    rw [plainV_eq v u h hu]
  | .nilIface, _, _, k => by simp only [VRel] at k; exact k
  | .agg cs, _, h, k => by
    simp only [VRel] at k; simp only [plainV] at h
    obtain ⟨u, hu, rfl⟩ := k
    rw [plainA_eq cs u h hu]
  | .tuple cs, _, h, k => by
    simp only [VRel] at k; simp only [plainV] at h
    obtain ⟨u, hu, rfl⟩ := k
    rw [plainA_eq cs u h hu]
theorem plainA_eq {ρ : Rho} : ∀ (v v' : Array Value), plainA v = true → ARel ρ v v' → v' = v
  | ⟨l⟩, a, h, k => by
    simp only [plainA] at h; simp only [ARel] at k
    have := plainL_eq l a.toList h k
    cases a; simp at this; subst this; rfl
theorem plainL_eq {ρ : Rho} : ∀ (l l' : List Value), plainL l = true → LRel ρ l l' → l' = l
  | [], _, _, k => by simp only [LRel] at k; exact k
  | v :: l, _, h, k => by
    simp only [LRel] at k; simp only [plainL, Bool.and_eq_true] at h
    obtain ⟨v', t', h1, h2, rfl⟩ := k
    rw [plainV_eq v v' h.1 h1, plainL_eq l t' h.2 h2]
end

/-! ### Results -/
theorem results_list (hi : Inv P B ρ h w) {env : List Value} {tmps : Array Value} (he : LRel ρ env tmps.toList) : ∀ (rs : List ResultVar) (vs : List Value), aresults P h env rs = some vs →
    ∃ vs', (rs.mapM (m := Sem) fun | .tmp t => pure (tmps.getD t undef) | .cell a t => do loadVar t (← asAddr (tmps.getD a undef))).run P w = .ok vs' w ∧ LRel ρ vs vs'
  | [], vs, hv => by simp only [aresults, Option.some.injEq] at hv; subst hv; exact ⟨[], by simp, LRel.nil⟩
  | .tmp t :: rs, vs, hv => by
    simp only [aresults, Option.map_eq_some_iff] at hv
    obtain ⟨l, hl, rfl⟩ := hv
    obtain ⟨vs', hr, hrel⟩ := results_list hi he rs l hl
    refine ⟨tmps.getD t undef :: vs', ?_, LRel.cons ?_ hrel⟩
    · simp only [List.mapM_cons, Sem.run_bind, Sem.run_pure, Result.andThen_ok, hr]
    · have := he.getD t; simpa [List.getD_eq_getElem?_getD] using this
  | .cell a t :: rs, vs, hv => by
    simp only [aresults] at hv
    split at hv
    · rename_i ad ha
      split at hv
      · rename_i v l h1 h2
        cases hv
        obtain ⟨vs', hr, hrel⟩ := results_list hi he rs l h2
        have hp : VRel ρ (env.getD a undef) (tmps.getD a undef) := by have := he.getD a; simpa [List.getD_eq_getElem?_getD] using this
        rw [ha] at hp
        obtain ⟨v', hv', hvr⟩ := load_sound hi hp h1
        refine ⟨v' :: vs', ?_, LRel.cons hvr hrel⟩
        simp only [VRel] at hp
        obtain ⟨b, s, _, hpe⟩ := hp
        have hl : (do loadVar t (← asAddr (tmps.getD a undef)) : Sem Value).run P w = .ok v' w := by
          rw [hpe] at hv' ⊢
          simp only [Instr.loadAt, Instr.sureAddr, Sem.run_bind, Sem.run_pure, Result.andThen_ok] at hv'
          simp only [asAddr, Sem.run_bind, Sem.run_pure, Result.andThen_ok, hv']
        simp only [List.mapM_cons]
        rw [Sem.run_bind, hl]
        simp only [Result.andThen_ok, Sem.run_bind, hr, Sem.run_pure]
      · cases hv
    · cases hv
theorem results_run (hi : Inv P B ρ h w) {env : List Value} {tmps : Array Value} (he : LRel ρ env tmps.toList) {fn : Func} {vs : List Value} (hv : aresults P h env fn.results.toList = some vs) :
    ∃ v', (results fn tmps).run P w = .ok v' w ∧ VRel ρ (oneOf vs) v' := by
  obtain ⟨vs', hr, hrel⟩ := results_list hi he _ _ hv
  have hm : (fn.results.mapM (m := Sem) fun | .tmp t => pure (tmps.getD t undef) | .cell a t => do loadVar t (← asAddr (tmps.getD a undef))).run P w = .ok ⟨vs'⟩ w := by
    rw [Array.mapM_eq_mapM_toList]
    simp only [Sem.run_map]
    rw [hr]
    rfl
  refine ⟨oneOf vs', ?_, ?_⟩
  · unfold results
    rw [Sem.run_bind]
    generalize hX : Sem.run P (Array.mapM _ fn.results) w = X
    have hX' : X = .ok ⟨vs'⟩ w := hX.symm.trans hm
    rw [hX']
    simp only [Result.andThen_ok, Sem.run_pure, Result.ok.injEq, and_true]
    match vs' with
    | [] => rfl
    | [v] => rfl
    | v :: u :: l => simp [oneOf]
  · match vs, vs', hrel with
    | [], [], _ => simp only [oneOf, VRel]; exact ⟨_, by simp only [ARel]; exact LRel.nil, rfl⟩
    | [v], [v'], hh => exact (LRel.cons_iff.1 hh).1
    | v :: u :: l, v' :: u' :: l', hh => simp only [oneOf, VRel]; exact ⟨_, by simp only [ARel]; exact hh, rfl⟩
    | [], _ :: _, hh => simp [LRel] at hh
    | [_], [], hh => have := hh.length; simp at this
    | [_], _ :: _ :: _, hh => have := hh.length; simp at this
    | _ :: _ :: _, [], hh => have := hh.length; simp at this
    | _ :: _ :: _, [_], hh => have := hh.length; simp at this

/-! ### The marks of deferred calls -/
theorem getObj_run {r : Nat} {o : Obj} (ho : w.heap[r]? = some o) (hc : ∀ c e f, o ≠ .cells c e f) : (getObj r).run P w = .ok o w := by
  simp only [getObj, Sem.run, ho]
theorem setObj_run {r : Nat} {o o' : Obj} (ho : w.heap[r]? = some o) (hc : ∀ c e f, o ≠ .cells c e f) : (setObj r o').run P w = .ok () { w with heap := w.heap.setIfInBounds r o' } := by
  simp only [setObj, Sem.run, ho]
theorem step_collected {fr : Frame} {cs : List Frame} {r : Nat} {args : Array Value} {ds : List Deferred} {w' : World} (hm : fr.mode = .returning) (hd : fr.defers = { target := .collected r, args := args } :: ds)
    (hr : (Instr.takeDeferred r).run P w = .ok [] w') : step P (lone fr cs w) = .next (lone { fr with defers := ds } cs w') :=
  step_lone_go (by simp [stepG, unwind, hm, hd, Sem.runT_eq, hr, GStep.bare_after])
theorem close_steps : ∀ (ds : List Nat) (h h2 : AH) (w : World) (fr : Frame) (cs : List Frame), closeMarks ds h = some h2 → Inv P B ρ h w → DRel ρ ds fr.defers → fr.mode = .returning →
    ∃ w', Evo P B ρ h w ρ h2 w' ∧ Steps P (lone fr cs w) (lone { fr with defers := [] } cs w')
  | [], h, h2, w, fr, cs, hc, hi, hd, _ => by
    simp only [closeMarks, Option.some.injEq] at hc; subst hc
    simp only [DRel] at hd
    refine ⟨w, Evo.refl hi, ?_⟩
    rw [← hd]
    exact Steps.refl _ _
  | d :: ds, h, h2, w, fr, cs, hc, hi, hd, hm => by
    simp only [closeMarks] at hc
    split at hc
    · rename_i hbase
      split at hc
      · rename_i hg
        obtain ⟨b, s, t, hr, ht, hdt⟩ := hd
        obtain ⟨o', ho, hb⟩ := hi.blk _ _ hg b s hr
        simp only [BRel, if_true] at hb
        subst hb
        have hnc : ∀ c e f, Obj.deferred (some []) ≠ .cells c e f := fun _ _ _ hh => by cases hh
        have hrun : (Instr.takeDeferred b).run P w = .ok [] { w with heap := w.heap.setIfInBounds b (.deferred none) } := by
          simp only [Instr.takeDeferred, Sem.run_bind, getObj_run ho hnc, Result.andThen_ok, setObj_run ho hnc, Sem.run_pure]
        have hevo := evo_set hi hbase hg hr (o := .marks false) (o' := .deferred none) (w' := { w with heap := w.heap.setIfInBounds b (.deferred none) }) (by simp [BRel]) rfl rfl rfl rfl
        obtain ⟨w', he2, hs2⟩ := close_steps ds _ h2 _ { fr with defers := t } cs hc hevo.inv ht hm
        exact ⟨w', hevo.trans he2, .head (step_collected hm hdt hrun) hs2⟩
      · cases hc
    · cases hc

/-! ### A call -/
theorem call_sound (C : Ctx P B K) {R : Run} (hR : RunOk C R) {f : FuncId} {args : List Value} {h : AH} {out : Out} {h' : AH}
    (hr : runCall P K R f args h = some (out, h')) : SimCall C f args h out.v h' := by
  intro ρ w args' hi hg ha
  unfold runCall at hr
  split at hr
  · rename_i v hk
    cases hr
    obtain ⟨h1, h2, h3⟩ := C.call f args v w hk hg
    rw [plainL_eq _ _ h1 ha]
    exact h3.mono fun e w' ⟨he, hb⟩ => ⟨ρ, v, he, plainV_rel v h2, evo_of_below hi hb⟩
  · -- one that hands on
    rename_i g bs hk
    split at hr
    · rename_i o h1 hrun
      split at hr
      · rename_i hok
        cases hr
        obtain ⟨bs', w1, hbs, hbel, hfw⟩ := C.fwd f args g bs hk ρ args' w ha hg
        have e1 := evo_of_below hi hbel
        have hc := hR _ _ _ _ hrun ρ w1 bs' e1.inv (e1.G C hi hg) hbs
        have := hfw o.v (fun w2 => ∃ ρ', Evo P B ρ h w1 ρ' h' w2) hok (hc.mono fun e w' ⟨ρ', v', he, hv, hev⟩ => by
          have hp : plainV o.v = true := by
            unfold fwdOk at hok
            split at hok
            · rename_i a b hab
              rw [hab]
              rfl
            · cases hok
          refine ⟨by rw [he, plainV_eq _ _ hp hv], ⟨fun i h1 h2 => hev.frame i h2 fun j s hj hs hr => ?_, hev.size, hev.os, hev.out, hev.tape⟩, ρ', hev⟩
          obtain ⟨oj, hoj⟩ := Option.isSome_iff_exists.1 hs
          obtain ⟨o', ho', _⟩ := hi.blk j oj hoj i s hr
          have := (Array.getElem?_eq_some_iff.1 ho').1
          omega)
        refine this.mono fun e w' ⟨he, w2, ⟨ρ', hev⟩, hga⟩ => ⟨ρ', o.v, he, ?_, evo_garb hi hbel hev hga⟩
        have hp : plainV o.v = true := by
          unfold fwdOk at hok
          split at hok
          · rename_i a b hab
            rw [hab]
            rfl
          · cases hok
        exact plainV_rel _ hp
      · cases hr
    · cases hr
  · split at hr
    · rename_i fn hf
      split at hr
      · rename_i body hb
        split at hr
        · rename_i o h1 hrun
          have hsim := hR _ _ _ _ hrun
          intro cs
          have hlen := ha.length
          have hte : Frame.enter P f ⟨args'⟩ .normal = ({ (default : Frame) with fn := f, kind := .normal } : Frame).atR { tmps := ⟨args' ++ List.replicate (fn.ntmps - args.length) undef⟩, defers := [] } [.code body] := by
            simp only [Frame.enter, Frame.atR, hf, Option.map_some, Option.getD_some, Option.bind_some, hb]
            congr 1
            · apply Array.ext'
              simp [hlen]
          obtain ⟨ρ1, w1, a1, k1, e1, r1, d1, s1, l1⟩ := hsim ρ w { (default : Frame) with fn := f, kind := .normal } { tmps := ⟨args' ++ List.replicate (fn.ntmps - args.length) undef⟩, defers := [] } cs hi hg rfl rfl
            (ha.append (LRel.replicate _ undef_rel)) rfl
          rw [← hte] at s1
          have hleave : (∀ id, o.leave ≠ .exit id) ∧ ∃ h2, closeMarks o.ds h1 = some h2 ∧ ∃ vs, aresults P h2 o.env fn.results.toList = some vs ∧ out = ⟨.fell, [], [], oneOf vs⟩ ∧ h' = h2 := by
            split at hr
            · cases hr
            · rename_i hne
              split at hr
              · rename_i h2 hcm
                simp only [Option.map_eq_some_iff] at hr
                obtain ⟨vs, hvs, hr⟩ := hr
                cases hr
                exact ⟨hne, _, hcm, vs, hvs, rfl, rfl⟩
              · cases hr
          obtain ⟨hne, h2, hcm, vs, hvs, hout, hh2⟩ := hleave
          subst hout; subst hh2
          have hret : Steps P (lone (({ (default : Frame) with fn := f, kind := .normal } : Frame).atR a1 k1) cs w1) (lone { ({ (default : Frame) with fn := f, kind := .normal } : Frame).atR a1 k1 with mode := .returning } cs w1) := by
            cases hl : o.leave with
            | fell => rw [hl] at l1; simp only [LeaveK] at l1; subst l1; exact .one (stepR_end rfl)
            | ret => rw [hl] at l1; obtain ⟨k2, rfl⟩ := l1; exact .one (stepR_ret rfl)
            | exit id => exact absurd hl (hne id)
          obtain ⟨w2, e2, s2⟩ := close_steps o.ds h1 h' w1 { ({ (default : Frame) with fn := f, kind := .normal } : Frame).atR a1 k1 with mode := .returning } cs hcm e1.inv d1 rfl
          obtain ⟨v', hres, hrel⟩ := results_run e2.inv (LRel.mono e2.ext _ _ r1) hvs
          exact ⟨.returned v', w2, _, ⟨ρ1, v', rfl, hrel, e1.trans e2⟩, (s1.trans hret).trans s2, rfl, rfl, rfl, rfl, fn, hf, hres⟩
        · cases hr
      · cases hr
    · cases hr

end Go.Ab
end
section
namespace Go.Ab
open Go.RowKit
variable {P : Program} {B : Nat} {ρ : Rho} {h : AH} {w : World} {K : FuncId → List Value → Option Ans}

/-- A loop's record. -/
theorem loop_at (hi : Inv P B ρ h w) {l lb : Nat} {s : Nat × Nat} {st : LoopState} {p : Option Code} {fn : FuncId} {tmps : List Value} {ps : Array Tmp} {as bd : Code} {d : Nat} (hg : h.get l = some (.loop st p fn tmps ps as bd d)) (hr : ρ l = some (lb, s)) :
    ∃ tmps' d' s', LRel ρ tmps tmps' ∧ ρ d = some (d', s') ∧ w.heap[lb]? = some (.loop { state := st, pending := p, fn := fn, tmps := ⟨tmps'⟩, params := ps, assign := as, body := bd, defers := d' }) := by
  obtain ⟨o', ho, tmps', d', s', h1, h2, h3⟩ := hi.blk _ _ hg lb s hr
  exact ⟨tmps', d', s', h1, h2, by rw [ho, h3]⟩
theorem setLoop_sound (hi : Inv P B ρ h w) {l lb : Nat} {s : Nat × Nat} {st : LoopState} {pd : Option (Option Code)} {h' : AH} (hs : setLoop h l st pd = some h') (hr : ρ l = some (lb, s)) :
    ∃ r : Loop, w.heap[lb]? = some (.loop r) ∧ (∃ st0 p0 fn tmps ps as bd d, h.get l = some (.loop st0 p0 fn tmps ps as bd d) ∧ r.state = st0 ∧ r.pending = p0) ∧
      Evo P B ρ h w ρ h' { w with heap := w.heap.setIfInBounds lb (.loop { r with state := st, pending := pd.getD r.pending }) } := by
  unfold setLoop at hs
  split at hs
  · rename_i st0 p fn tmps ps as bd d hg
    split at hs
    · rename_i hb
      cases hs
      obtain ⟨tmps', d', s', h1, h2, h3⟩ := loop_at hi hg hr
      exact ⟨_, h3, ⟨_, _, _, _, _, _, _, _, hg, rfl, rfl⟩, evo_set hi hb hg hr (o := .loop st (pd.getD p) fn tmps ps as bd d) ⟨tmps', d', s', h1, h2, rfl⟩ rfl rfl rfl rfl⟩
    · cases hs
  · cases hs
theorem loop_not_cells {r : Loop} : ∀ c e f, Obj.loop r ≠ .cells c e f := fun _ _ _ hh => by cases hh
theorem getLoop_run {lb : Nat} {r : Loop} (h : w.heap[lb]? = some (.loop r)) : (Instr.getLoop lb).run P w = .ok r w := by
  simp only [Instr.getLoop, Sem.run_bind, getObj_run h loop_not_cells, Result.andThen_ok, Sem.run_pure]

theorem fold_rel : ∀ (l : List (Tmp × Value)) (l' : List (Tmp × Value)) (t : List Value) (t' : Array Value), l.map (·.1) = l'.map (·.1) → LRel ρ (l.map (·.2)) (l'.map (·.2)) → LRel ρ t t'.toList →
    LRel ρ (l.foldl (fun t (p, v) => t.set p v) t) (l'.foldl (fun t (p, v) => t.setIfInBounds p v) t').toList
  | [], [], t, t', _, _, h => h
  | (p, v) :: l, (p', v') :: l', t, t', h1, h2, h => by
    simp only [List.map_cons, List.cons.injEq] at h1
    obtain ⟨rfl, h1⟩ := h1
    simp only [List.map_cons] at h2
    have h3 := LRel.cons_iff.1 h2
    simp only [List.foldl_cons]
    exact fold_rel l l' _ _ h1 h3.2 (by simpa using h.set p h3.1)
  | [], _ :: _, _, _, h1, _, _ => by simp at h1
  | _ :: _, [], _, _, h1, _, _ => by simp at h1

theorem round_sound (C : Ctx P B K) {R : Run} (hR : RunOk C R) {l : Nat} {args : List Value} {h : AH} {out : Out} {h' : AH}
    (hr : runRound R l args h = some (out, h')) : SimRound C l args h out.v h' := by
  intro ρ w args' lb s hi hg ha hl
  unfold runRound at hr
  split at hr
  · rename_i st p fn tmps ps assign body d hget
    split at hr
    · rename_i hlen
      obtain ⟨tmps', d', s', ht, hd, hw⟩ := loop_at hi hget hl
      have hal := ha.length
      refine ⟨fn, (ps.toList.zip args').foldl (fun t (p, v) => t.setIfInBounds p v) ⟨tmps'⟩, assign, body, ?_, ?_⟩
      · have hz : (ps.zip ⟨args'⟩).foldl (fun (t : Array Value) (x : Tmp × Value) => t.setIfInBounds x.1 x.2) ⟨tmps'⟩ = (ps.toList.zip args').foldl (fun t (p, v) => t.setIfInBounds p v) ⟨tmps'⟩ := by
          rw [← Array.foldl_toList, Array.toList_zip]
        have hsz : ¬ (⟨args'⟩ : Array Value).size ≠ ps.size := by simp; omega
        simp only [Instr.yield, Sem.run_bind, getLoop_run hw, Result.andThen_ok]
        rw [if_neg hsz]
        simp only [Sem.run_pure, Result.ok.injEq, Next.round.injEq, and_true, true_and]
        exact hz
      · intro c cs
        split at hr
        · rename_i o h1 hrun
          have hsim := hR _ _ _ _ hrun
          split at hr
          · have hzl : ∀ (xs : List Value), xs.length = ps.toList.length → (ps.toList.zip xs).map (·.1) = ps.toList ∧ (ps.toList.zip xs).map (·.2) = xs := fun xs hx => ⟨List.map_fst_zip (by omega), List.map_snd_zip (by omega)⟩
            have hz1 := hzl args (by simpa using hlen)
            have hz2 := hzl args' (by simp; omega)
            obtain ⟨ρ1, w1, a1, k1, e1, r1, d1, s1, l1⟩ := hsim ρ w { (default : Frame) with fn := fn, kind := .normal, roundOf := some lb } { tmps := (ps.toList.zip args').foldl (fun t (p, v) => t.setIfInBounds p v) ⟨tmps'⟩, defers := [] } (c :: cs) hi hg rfl ⟨lb, s, hl, rfl⟩
              (fold_rel _ _ _ _ (by rw [hz1.1, hz2.1]) (by rw [hz1.2, hz2.2]; exact ha) ht) rfl
            have hl1 := e1.ext _ _ hl
            have fin : ∀ (jump : Option Code) (h2 : AH), setLoop h1 l (if jump.isNone then .ready else .done) (some jump) = some h2 → ∃ w2, (Instr.endRound lb jump).run P w1 = .ok (.bool jump.isNone) w2 ∧ Evo P B ρ1 h1 w1 ρ1 h2 w2 := by
              intro jump h2 hsl
              obtain ⟨r, hw1, _, hev⟩ := setLoop_sound e1.inv hsl hl1
              refine ⟨_, ?_, hev⟩
              simp only [Instr.endRound, Sem.run_bind, getLoop_run hw1, Result.andThen_ok, setObj_run hw1 loop_not_cells, Sem.run_pure, Option.getD_some]
            cases hlv : o.leave with
            | fell =>
              rw [hlv] at hr l1
              simp only [LeaveK] at l1; subst l1
              simp only [Option.map_eq_some_iff] at hr
              obtain ⟨h2, hsl, hr⟩ := hr
              cases hr
              obtain ⟨w2, hend, hev⟩ := fin none _ hsl
              exact ⟨ρ1, .bool true, w2, by simp only [VRel], e1.trans hev, s1.trans (.one (stepR_round_end rfl rfl hend))⟩
            | ret =>
              rw [hlv] at hr l1
              obtain ⟨k2, rfl⟩ := l1
              simp only [Option.map_eq_some_iff] at hr
              obtain ⟨h2, hsl, hr⟩ := hr
              cases hr
              obtain ⟨w2, hend, hev⟩ := fin (some .ret) _ hsl
              exact ⟨ρ1, .bool false, w2, by simp only [VRel], e1.trans hev, s1.trans (.one (stepR_round_ret rfl rfl hend))⟩
            | exit id =>
              rw [hlv] at hr l1
              obtain ⟨k2, rfl, hx⟩ := l1
              simp only [Option.map_eq_some_iff] at hr
              obtain ⟨h2, hsl, hr⟩ := hr
              cases hr
              obtain ⟨w2, hend, hev⟩ := fin (some (.exit id)) _ hsl
              exact ⟨ρ1, .bool false, w2, by simp only [VRel], e1.trans hev, s1.trans (.one (stepR_round_exit rfl rfl hx hend))⟩
          · cases hr
        · cases hr
    · cases hr
  · cases hr

/-- What a region that draws its order comes to. -/
def DrawOk (C : Ctx P B K) (R : Run) : Prop := ∀ (ops : Array Oper) (env : List Value) (h : AH) (env' : List Value) (h' : AH), drawRun P R ops env h = some (env', h') →
  ∀ (ρ : Rho) (w : World) (b : Frame) (a : Act) (cs : List Frame) (k : List Item) (t : Nat), Inv P B ρ h w → C.G w → LRel ρ env a.tmps.toList →
    ∃ ρ' w' a', Evo P B ρ h w ρ' h' w' ∧ LRel ρ' env' a'.tmps.toList ∧ a'.defers = a.defers ∧
      Steps P (lone (b.atR a (.inRegion ops (Region.schedule (P.follows .mixedOrders) ops t) :: k)) cs w) (lone (b.atR a' (.inRegion ops [] :: k)) cs w')

theorem opsAt_range (all : Array Oper) : ∀ (rest : List Oper) (i : Nat), (∀ j, all[i + j]? = rest[j]?) → OpsAt all (List.range' i rest.length) rest
  | [], i, _ => trivial
  | o :: rest, i, hall => by
    refine ⟨by simpa using hall 0, opsAt_range all rest (i + 1) fun j => ?_⟩
    have := hall (j + 1)
    simpa [Nat.add_assoc, Nat.add_comm 1 j] using this

end Go.Ab
end
section
namespace Go.Ab
open Go.RowKit
variable {P : Program} {B : Nat} {K : FuncId → List Value → Option Ans}

/-- one step of the model ahead of a run that is known -/
theorem todo_step (C : Ctx P B K) {fn : FuncId} {ro : Option Nat} {ds : List Nat} {env : List Value} {k k1 : List Item} {h : AH} {out : Out} {h' : AH}
    (hs : ∀ (b : Frame) (a : Act) (cs : List Frame) (w : World) (ρ : Rho), Inv P B ρ h w → LRel ρ env a.tmps.toList → b.fn = fn → RoRel ρ ro b.roundOf → step P (lone (b.atR a k) cs w) = .next (lone (b.atR a k1) cs w))
    (hsim : SimTodo C fn ro ds env k1 h out h') : SimTodo C fn ro ds env k h out h' := by
  intro ρ w b a cs hi hg hb hro he hd
  obtain ⟨ρ', w', a', k', h1, h2, h3, h4, h5⟩ := hsim ρ w b a cs hi hg hb hro he hd
  exact ⟨ρ', w', a', k', h1, h2, h3, .head (hs b a cs w ρ hi he hb hro) h4, h5⟩

set_option maxHeartbeats 1000000 in
theorem run_ok (C : Ctx P B K) (hdraw : ∀ R, RunOk C R → DrawOk C R) : ∀ n, RunOk C (run P K n) := by
  intro n
  induction n with
  | zero => intro t h out h' hr; simp [run] at hr
  | succ n ih =>
    intro t h out h' hr
    cases t with
    | call f args => exact call_sound C ih hr
    | round l args => exact round_sound C ih hr
    | ops all rest env => exact ops_sound C ih hr
    | todo fn ro ds env k =>
      replace hr : runTodo P (run P K n) fn ro ds env k h = some (out, h') := hr
      show SimTodo C fn ro ds env k h out h'
      unfold runTodo at hr
      split at hr
      · -- nothing is left
        cases hr
        exact fun ρ w b a cs hi _ _ _ he hd => ⟨ρ, w, a, [], Evo.refl hi, he, hd, Steps.refl _ _, rfl⟩
      · rename_i c k
        split at hr
        · exact todo_step C (fun b a cs w ρ _ _ _ _ => stepR_skip) (ih _ _ _ _ hr)
        · exact todo_step C (fun b a cs w ρ _ _ _ _ => stepR_label) (ih _ _ _ _ hr)
        · exact todo_step C (fun b a cs w ρ _ _ _ _ => stepR_seq) (ih _ _ _ _ hr)
        · rename_i c t e
          split at hr
          · rename_i bb hc
            refine todo_step C (fun b a cs w ρ hi he _ _ => ?_) (ih _ _ _ _ hr)
            have := aeval_rel hi he c
            rw [hc] at this
            simp only [VRel] at this
            exact stepR_cond this
          · cases hr
        · exact todo_step C (fun b a cs w ρ _ _ _ _ => stepR_block) (ih _ _ _ _ hr)
        · exact todo_step C (fun b a cs w ρ _ _ _ _ => stepR_loop) (ih _ _ _ _ hr)
        · exact todo_step C (fun b a cs w ρ _ _ _ _ => step_lone_go (by simp [stepG, stepG.exec, Frame.atR])) (ih _ _ _ _ hr)
        · rename_i id
          split at hr
          · rename_i k' hx
            exact todo_step C (fun b a cs w ρ _ _ _ _ => stepR_exit hx) (ih _ _ _ _ hr)
          · rename_i hx
            split at hr
            · cases hr
              exact fun ρ w b a cs hi _ _ _ he hd => ⟨ρ, w, a, .code (.exit id) :: k, Evo.refl hi, he, hd, Steps.refl _ _, ⟨k, rfl, hx⟩⟩
            · cases hr
        · cases hr
          exact fun ρ w b a cs hi _ _ _ he hd => ⟨ρ, w, a, .code .ret :: k, Evo.refl hi, he, hd, Steps.refl _ _, ⟨k, rfl⟩⟩
        · -- a region in the text's order
          rename_i id ops
          split at hr
          · rename_i o h1 hops
            intro ρ w b a cs hi hg hb hro he hd
            have hat : OpsAt ops (List.range ops.size) ops.toList := by
              have := opsAt_range ops ops.toList 0 (fun j => by simp)
              rw [List.range_eq_range']
              simpa using this
            obtain ⟨ρ1, w1, a1, e1, r1, d1, s1⟩ := ih _ _ _ _ hops ρ w b a cs (List.range ops.size) k hi hg he hat
            obtain ⟨ρ', w', a', k', h1, h2, h3, h4, h5⟩ := ih _ _ _ _ hr ρ1 w1 b a1 cs e1.inv (e1.G C hi hg) hb (hro.mono e1.ext) r1 (by rw [d1]; exact hd.mono e1.ext)
            exact ⟨ρ', w', a', k', e1.trans h1, h2, h3, .head stepR_region (s1.trans (.head stepR_region_end h4)), h5⟩
          · cases hr
        · -- a region that draws
          rename_i id ops
          split at hr
          · rename_i env' h1 hdr
            intro ρ w b a cs hi hg hb hro he hd
            have ed := evo_draw hi
            obtain ⟨ρ1, w1, a1, e1, r1, d1, s1⟩ := hdraw _ ih ops env h env' h1 hdr ρ { w with drawn := w.drawn + 1 } b a cs k (w.tape w.drawn (.order b.fn id)) ed.inv (ed.G C hi hg) he
            have e2 := ed.trans e1
            obtain ⟨ρ', w', a', k', h1, h2, h3, h4, h5⟩ := ih _ _ _ _ hr ρ1 w1 b a1 cs e2.inv (e2.G C hi hg) hb (hro.mono e2.ext) r1 (by rw [d1]; exact hd.mono e2.ext)
            exact ⟨ρ', w', a', k', e2.trans h1, h2, h3, .head stepR_region_draw (s1.trans (.head stepR_region_end h4)), h5⟩
          · cases hr
        · -- a range over a function
          rename_i f ps assign body
          split at hr
          · rename_i d h1 ds1 hdd
            split at hr
            · rename_i g first captured hf
              split at hr
              · rename_i hcal
                split at hr
                · rename_i ox h3 hcall
                  split at hr
                  · rename_i st p _ _ _ _ _ _ hgl
                    split at hr
                    · cases hr
                    · rename_i hbusy
                      split at hr
                      · rename_i h4 hsl
                        intro ρ w b a cs hi hg hb hro he hd
                        -- the block for deferred calls
                        obtain ⟨ρ1, w1, mark, d', s', e1, hd1, hdr1, henter⟩ : ∃ ρ1 w1 mark d' s', Evo P B ρ h w ρ1 h1 w1 ∧ ρ1 d = some (d', s') ∧ DRel ρ1 ds1 (mark ++ a.defers) ∧
                            (Instr.enterLoop b.fn a.tmps ps assign body b.roundOf).run P w = .ok (w1.heap.size, mark) (w1.alloc (.loop { state := .ready, pending := none, fn := b.fn, tmps := a.tmps, params := ps, assign := assign, body := body, defers := d' })) := by
                          cases ro with
                          | none =>
                            simp only [RoRel] at hro
                            simp only [Option.some.injEq, Prod.mk.injEq] at hdd
                            obtain ⟨rfl, rfl, rfl⟩ := hdd
                            have ea := evo_alloc hi (o := .marks true) (o' := .deferred (some [])) (s := (0, 0)) (w' := w.alloc (.deferred (some []))) (by simp [BRel]) rfl rfl rfl rfl
                            refine ⟨_, _, [{ target := .collected w.heap.size, args := #[] }], w.heap.size, (0, 0), ea, upd_same, ⟨_, _, _, upd_same, hd.mono ea.ext, rfl⟩, ?_⟩
                            rw [hro]
                            simp [Instr.enterLoop]
                          | some l =>
                            obtain ⟨lb, s, hl, hro'⟩ := hro
                            simp only at hdd
                            split at hdd
                            · rename_i st0 p0 fn0 tm0 ps0 as0 bd0 d0 hg0
                              simp only [Option.some.injEq, Prod.mk.injEq] at hdd
                              obtain ⟨rfl, rfl, rfl⟩ := hdd
                              obtain ⟨tmps', d', s', _, hdd', hw⟩ := loop_at hi hg0 hl
                              refine ⟨ρ, w, [], d', s', Evo.refl hi, hdd', hd, ?_⟩
                              rw [hro']
                              simp [Instr.enterLoop, getLoop_run hw]
                            · cases hdd
                        -- the loop's record
                        have he1 := LRel.mono e1.ext _ _ he
                        have e2 := evo_alloc e1.inv (o := .loop .ready none fn env ps assign body d) (s := (0, 0))
                          (o' := .loop { state := .ready, pending := none, fn := b.fn, tmps := a.tmps, params := ps, assign := assign, body := body, defers := d' })
                          (w' := w1.alloc (.loop { state := .ready, pending := none, fn := b.fn, tmps := a.tmps, params := ps, assign := assign, body := body, defers := d' }))
                          (by
                            have hext := Ext.upd (x := (w1.heap.size, (0, 0))) (e1.inv.fresh h1.next (Nat.le_refl _))
                            exact ⟨a.tmps.toList, d', s', LRel.mono hext _ _ he1, hext _ _ hd1, by rw [hb]⟩) rfl rfl rfl rfl
                        have e12 := e1.trans e2
                        have hfv := aeval_rel e12.inv (a := a) (LRel.mono e2.ext _ _ he1) f
                        rw [hf] at hfv
                        simp only [VRel, FRel] at hfv
                        obtain ⟨_, fs', cs', rfl, hfs, hcs, hfe⟩ := hfv
                        have hargs : LRel (upd ρ1 h1.next (w1.heap.size, (0, 0))) (first.toList ++ [.func (.yield h1.next) #[] #[]] ++ captured.toList) (fs'.toList ++ [.func (.yield w1.heap.size) #[] #[]] ++ cs'.toList) := by
                          refine ((ARel_iff.1 hfs).append (LRel.cons ?_ LRel.nil)).append (ARel_iff.1 hcs)
                          simp only [VRel, FRel]
                          exact ⟨_, _, _, ⟨_, _, upd_same, rfl⟩, by simp only [ARel]; exact LRel.nil, by simp only [ARel]; exact LRel.nil, rfl⟩
                        have hcalls := ih _ _ _ _ hcall _ _ _ e2.inv (e12.G C hi hg) hargs (b.atR { a with defers := mark ++ a.defers } (.inRangeFunc w1.heap.size :: k) :: cs)
                        obtain ⟨e, w3, fr, ⟨ρ3, v', rfl, _, e3⟩, hcomes, _, hleave⟩ := hcalls
                        have e123 := e12.trans e3
                        have hl3 : ρ3 h1.next = some (w1.heap.size, (0, 0)) := e3.ext _ _ upd_same
                        obtain ⟨r, hw3, ⟨st0, p0, fn0, tm0, ps0, as0, bd0, d0, hg0, hst, hpd⟩, e4⟩ := setLoop_sound e3.inv hsl hl3
                        rw [hgl] at hg0
                        cases hg0
                        have hend : (Instr.endLoop w1.heap.size).run P w3 = .ok p { w3 with heap := w3.heap.setIfInBounds w1.heap.size (.loop { r with state := .exhausted }) } := by
                          have hnb : (r.state == LoopState.busy) = false := by rw [hst]; simpa using hbusy
                          simp only [Instr.endLoop, Sem.run_bind, getLoop_run hw3, Result.andThen_ok]
                          simp only [hnb, Bool.false_eq_true, if_false, Sem.run_bind, setObj_run hw3 loop_not_cells, Result.andThen_ok, Sem.run_pure, hpd]
                        simp only [Option.getD_none] at e4
                        have e1234 := e123.trans e4
                        obtain ⟨ρ', w', a', k', g1, g2, g3, g4, g5⟩ := ih _ _ _ _ hr ρ3 { w3 with heap := w3.heap.setIfInBounds w1.heap.size (.loop { r with state := .exhausted }) } b { a with defers := mark ++ a.defers } cs e4.inv (e1234.G C hi hg) hb (hro.mono e1234.ext)
                          (LRel.mono e1234.ext _ _ he) (hdr1.mono (e2.trans (e3.trans e4)).ext)
                        refine ⟨ρ', w', a', k', e1234.trans g1, g2, g3, ?_, g5⟩
                        have hres : (resolve a.eval (rangeCall f w1.heap.size) 0).run P (w1.alloc (.loop { state := .ready, pending := none, fn := b.fn, tmps := a.tmps, params := ps, assign := assign, body := body, defers := d' })) =
                            .ok { target := .fn (.func g) cs', args := fs' ++ #[.func (.yield w1.heap.size) #[] #[]] } (w1.alloc (.loop { state := .ready, pending := none, fn := b.fn, tmps := a.tmps, params := ps, assign := assign, body := body, defers := d' })) := by
                          show (Deferred.ofValue (a.eval f) ((#[.const (.func (.yield w1.heap.size) #[] #[])] : Array Operand).map a.eval)).run P _ = _
                          rw [hfe]
                          simp [Deferred.ofValue, Act.eval]
                        have hinv : (invoke (.fn (.func g) cs') (fs' ++ #[.func (.yield w1.heap.size) #[] #[]])).run P (w1.alloc (.loop { state := .ready, pending := none, fn := b.fn, tmps := a.tmps, params := ps, assign := assign, body := body, defers := d' })) =
                            .ok (.enter g ⟨fs'.toList ++ [.func (.yield w1.heap.size) #[] #[]] ++ cs'.toList⟩) (w1.alloc (.loop { state := .ready, pending := none, fn := b.fn, tmps := a.tmps, params := ps, assign := assign, body := body, defers := d' })) := by
                          simp only [invoke]
                          rw [callable_run hcal]
                          exact congrArg (fun x => Result.ok (Next.enter g x) _) (Array.ext' (by simp))
                        refine .head (stepR_rangeFunc henter hres hinv) (Steps.trans hcomes (.head ?_ (.head (stepR_endRangeFunc hend) g4)))
                        rw [step_leave_returned hleave, finish_atR_inRangeFunc]
                      · cases hr
                  · cases hr
                · cases hr
              · cases hr
            · cases hr
          · cases hr
        · cases hr
      · exact todo_step C (fun b a cs w ρ _ _ _ _ => stepR_inBlock) (ih _ _ _ _ hr)
      · exact todo_step C (fun b a cs w ρ _ _ _ _ => step_lone_go (by simp [stepG, stepG.exec, Frame.atR])) (ih _ _ _ _ hr)
      · exact todo_step C (fun b a cs w ρ _ _ _ _ => stepR_inLoop) (ih _ _ _ _ hr)
      · -- a round begins
        split at hr
        · rename_i l
          split at hr
          · rename_i _ _ _ _ _ _ _ hgl
            split at hr
            · rename_i h1 hsl
              intro ρ w b a cs hi hg hb hro he hd
              obtain ⟨lb, s, hl, hro'⟩ := hro
              obtain ⟨r, hw, ⟨st0, p0, fn0, tm0, ps0, as0, bd0, d0, hg0, hst, hpd⟩, e1⟩ := setLoop_sound hi hsl hl
              rw [hgl] at hg0
              cases hg0
              have hbr : (Instr.beginRound lb).run P w = .ok () { w with heap := w.heap.setIfInBounds lb (.loop { r with state := .busy }) } := by
                simp only [Instr.beginRound, Sem.run_bind, getLoop_run hw, Result.andThen_ok, setObj_run hw loop_not_cells, hst]
                rfl
              simp only [Option.getD_none] at e1
              obtain ⟨ρ', w', a', k', g1, g2, g3, g4, g5⟩ := ih _ _ _ _ hr ρ _ b a cs e1.inv (e1.G C hi hg) hb ⟨lb, s, hl, hro'⟩ he hd
              exact ⟨ρ', w', a', k', e1.trans g1, g2, g3, .head (stepR_beginRound hro' hbr) g4, g5⟩
            · cases hr
          · cases hr
        · cases hr
      · cases hr

end Go.Ab
end
section
namespace Go.Ab
open Go.RowKit
variable {P : Program}

/-! ### What an operation looks at -/
theorem map_congr_ops {α : Type} {f g : α → Value} : ∀ (l : List α), (∀ x ∈ l, f x = g x) → l.map f = l.map g
  | [], _ => rfl
  | x :: l, h => by simp only [List.map_cons]; rw [h x List.mem_cons_self, map_congr_ops l fun y hy => h y (List.mem_cons_of_mem _ hy)]
theorem alight_congr {ev ev' : Operand → Value} {h : AH} (op : Op) (he : ∀ x ∈ op.operands.toList, ev x = ev' x) : alight P ev h op = alight P ev' h op := by
  cases op with
  | build t parts =>
    simp only [alight]
    congr 1
    have : ∀ l : List (Nat × Operand), (∀ p ∈ l, ev p.2 = ev' p.2) → l.map (fun p => (p.1, ev p.2)) = l.map fun p => (p.1, ev' p.2) := by
      intro l hl
      induction l with
      | nil => rfl
      | cons p l ih => simp only [List.map_cons]; rw [hl p List.mem_cons_self, ih fun q hq => hl q (List.mem_cons_of_mem _ hq)]
    exact this _ fun p hp => he _ (by simp only [Op.operands]; exact List.mem_map_of_mem hp)
  | makeFunc fn first captured =>
    simp only [alight]
    have h1 : first.map ev = first.map ev' := Array.ext' (by simp only [Array.toList_map]; exact map_congr_ops _ fun x hx => he x (by simp only [Op.operands, Array.toList_append]; exact List.mem_append_left _ hx))
    have h2 : captured.map ev = captured.map ev' := Array.ext' (by simp only [Array.toList_map]; exact map_congr_ops _ fun x hx => he x (by simp only [Op.operands, Array.toList_append]; exact List.mem_append_right _ hx))
    rw [h1, h2]
  | slice t x lo hi mx =>
    simp only [alight]
    have hx : ev x = ev' x := he x (by simp [Op.operands])
    have h1 : lo.map ev = lo.map ev' := by cases lo with | none => rfl | some y => simp only [Option.map_some]; rw [he y (by simp [Op.operands])]
    have h2 : hi.map ev = hi.map ev' := by cases hi with | none => rfl | some y => simp only [Option.map_some]; rw [he y (by simp [Op.operands])]
    have h3 : mx.map ev = mx.map ev' := by cases mx with | none => rfl | some y => simp only [Option.map_some]; rw [he y (by simp [Op.operands])]
    rw [hx, h1, h2, h3]
  | move x => simp only [alight]; rw [he x (by simp [Op.operands])]
  | assign x => simp only [alight]; rw [he x (by simp [Op.operands])]
  | pick c a b => simp only [alight]; rw [he c (by simp [Op.operands]), he a (by simp [Op.operands]), he b (by simp [Op.operands])]
  | load t a => simp only [alight]; rw [he a (by simp [Op.operands])]
  | nilCheck x => simp only [alight]; rw [he x (by simp [Op.operands])]
  | binOp op t x y yt => simp only [alight]; rw [he x (by simp [Op.operands]), he y (by simp [Op.operands])]
  | unOp op t x => simp only [alight]; rw [he x (by simp [Op.operands])]
  | convert s d x => simp only [alight]; rw [he x (by simp [Op.operands])]
  | makeInterface t x => simp only [alight]; rw [he x (by simp [Op.operands])]
  | fieldAddr s x f => simp only [alight]; rw [he x (by simp [Op.operands])]
  | field s x f => simp only [alight]; rw [he x (by simp [Op.operands])]
  | indexAddr t x i => simp only [alight]; rw [he x (by simp [Op.operands]), he i (by simp [Op.operands])]
  | index t x i => simp only [alight]; rw [he x (by simp [Op.operands]), he i (by simp [Op.operands])]
  | extract t i => simp only [alight]; rw [he t (by simp [Op.operands])]
  | _ => rfl
theorem aalloc_congr {ev ev' : Operand → Value} (op : Op) (he : ∀ x ∈ op.operands.toList, ev x = ev' x) : aalloc P ev op = aalloc P ev' op := by
  cases op with
  | alloc e => rfl
  | box e x => simp only [aalloc]; rw [he x (by simp [Op.operands])]
  | buildSlice t len parts =>
    simp only [aalloc]
    have : ∀ l : List (Nat × Operand), (∀ p ∈ l, ev p.2 = ev' p.2) → l.map (fun p => (p.1, ev p.2)) = l.map fun p => (p.1, ev' p.2) := by
      intro l hl
      induction l with
      | nil => rfl
      | cons p l ih => simp only [List.map_cons]; rw [hl p List.mem_cons_self, ih fun q hq => hl q (List.mem_cons_of_mem _ hq)]
    rw [this parts.toList fun p hp => he _ (by simp only [Op.operands]; exact List.mem_map_of_mem hp)]
  | makeSlice t l c => simp only [aalloc]; rw [he l (by simp [Op.operands]), he c (by simp [Op.operands])]
  | _ => rfl
theorem call_args_mem {c : Call} {x : Operand} (h : x ∈ c.args.toList) : x ∈ (Op.call c).operands.toList := by
  simp only [Op.operands, Call.operands, Array.toList_append]
  exact List.mem_append_right _ h
theorem heavy_congr {R : Run} {ev ev' : Operand → Value} {h : AH} (op : Op) (he : ∀ x ∈ op.operands.toList, ev x = ev' x) : heavyStep P R ev h op = heavyStep P R ev' h op := by
  cases op with
  | store t a x => simp only [heavyStep]; rw [he a (by simp [Op.operands]), he x (by simp [Op.operands])]
  | call c =>
    have ha : c.args.toList.map ev = c.args.toList.map ev' := map_congr_ops _ fun x hx => he x (call_args_mem hx)
    obtain ⟨callee, args, argTypes⟩ := c
    cases callee with
    | builtin b => simp only [heavyStep]; simp only at ha; rw [ha]
    | value f =>
      have hf : ev f = ev' f := he f (by simp [Op.operands, Call.operands])
      simp only [heavyStep]; simp only at ha; rw [ha, hf]
    | invoke r m => rfl
  | _ => rfl
theorem light_congr {ev ev' : Operand → Value} {h : AH} (op : Op) (he : ∀ x ∈ op.operands.toList, ev x = ev' x) : lightVal P ev h op = lightVal P ev' h op := by
  cases op with
  | call c =>
    have ha : c.args.toList.map ev = c.args.toList.map ev' := map_congr_ops _ fun x hx => he x (call_args_mem hx)
    obtain ⟨callee, args, argTypes⟩ := c
    cases callee with
    | builtin b => simp only [lightVal]; simp only at ha; rw [ha]
    | _ => rfl
  | _ => exact alight_congr (P := P) (h := h) _ he

/-! ### More blocks -/
def Grows (g g' : AH) : Prop := ∀ i o, g.get i = some o → g'.get i = some o
theorem loadCells_grow {g g' : AH} (hg : Grows g g') {a : Addr} {n : Nat} {l : List Value} (h : loadCellsAt g a n = some l) : loadCellsAt g' a n = some l := by
  unfold loadCellsAt at h ⊢
  split at h
  · cases h
  · rename_i hs
    rw [if_neg hs]
    split at h
    · rename_i hb; rw [hg _ _ hb]; exact h
    · cases h
theorem aload_grow {g g' : AH} (hg : Grows g g') {t : TypeId} {a : Addr} {v : Value} (h : aload P g t a = some v) : aload P g' t a = some v := by
  unfold aload at h ⊢
  split at h
  · rename_i ht
    simp only [Option.map_eq_some_iff] at h
    obtain ⟨l, hl, rfl⟩ := h
    simp only [loadCells_grow hg hl, Option.map_some]
  · rename_i ht
    split at h
    · cases h
    · rename_i hs
      rw [if_neg hs]
      split at h
      · rename_i hb; rw [hg _ _ hb]; exact h
      · cases h
  · cases h
theorem aslice_grow {g g' : AH} (hg : Grows g g') {t : TypeId} {x : Value} {lo hi mx : Option Value} {v : Value} (h : aslice P g t x lo hi mx = some v) : aslice P g' t x lo hi mx = some v := by
  have he : ∀ i b, exactAt g i = some b → exactAt g' i = some b := by
    intro i b hb
    unfold exactAt at hb ⊢
    split at hb
    · rename_i hc; rw [hg _ _ hc]; exact hb
    · cases hb
  unfold aslice at h ⊢
  split at h
  · exact h
  · exact h
  · exact h
  · rename_i e a len cap hd
    split at h
    · split at h
      · split at h
        · split at h
          · rename_i hs; rw [if_pos hs]; exact h
          · rename_i hs
            rw [if_neg hs]
            split at h
            · rename_i hc
              rw [if_pos hc]
              split at h
              · rename_i hml
                rw [if_pos hml]
                split at h
                · rename_i hx; rw [if_pos hx]; exact h
                · rename_i hx0
                  rw [if_neg hx0]
                  split at h
                  · rename_i hx; rw [he _ _ hx]; exact h
                  · rename_i hx; rw [he _ _ hx]; exact h
                  · cases h
              · rename_i hml
                rw [if_neg hml]; exact h
            · cases h
        · cases h
      · cases h
    · cases h
  · cases h
theorem strOf_grow {g g' : AH} (hg : Grows g g') {x v : Value} (h : strOf g x = some v) : strOf g' x = some v := by
  unfold strOf at h ⊢
  split at h
  · exact h
  · split at h
    · rename_i hn; rw [if_pos hn]; exact h
    · rename_i hn
      rw [if_neg hn]
      simp only [Option.map_eq_some_iff, Option.bind_eq_some_iff] at h ⊢
      obtain ⟨l, ⟨c, hc, hl⟩, rfl⟩ := h
      exact ⟨l, ⟨c, loadCells_grow hg hc, hl⟩, rfl⟩
  · cases h
theorem lit_any {g g' : AH} {b : Builtin} (hb : litBuiltin b = true) (at_ : Array TypeId) (args : List Value) : (abuiltin P g b at_ args).map (·.1) = (abuiltin P g' b at_ args).map (·.1) := by
  cases b <;> simp only [litBuiltin] at hb <;> try cases hb
  · rcases args with _ | ⟨x, _ | ⟨y, l⟩⟩
    · rfl
    · simp only [abuiltin]
      split <;> (try split) <;> rfl
    · rfl
  · rcases args with _ | ⟨x, _ | ⟨y, _ | ⟨z, l⟩⟩⟩
    · rfl
    · cases x <;> rfl
    · cases x <;> cases y <;> rfl
    · cases x <;> cases y <;> rfl
  · rcases args with _ | ⟨x, _ | ⟨y, _ | ⟨z, l⟩⟩⟩
    · rfl
    · cases x <;> rfl
    · cases x <;> cases y <;> rfl
    · cases x <;> cases y <;> rfl
theorem light_grow {g g' : AH} (hg : Grows g g') {ev : Operand → Value} {op : Op} {v : Value} (h : lightVal P ev g op = some v) : lightVal P ev g' op = some v := by
  cases op with
  | call c =>
    obtain ⟨callee, args, argTypes⟩ := c
    cases callee with
    | builtin b =>
      simp only [lightVal] at h ⊢
      split at h
      · rename_i hb
        rw [if_pos hb, ← lit_any (g := g) hb]
        exact h
      · cases h
    | _ => simp [lightVal] at h
  | load t a =>
    simp only [lightVal, alight] at h ⊢
    split at h
    · exact aload_grow hg h
    · cases h
  | slice t x lo hi mx => simp only [lightVal, alight] at h ⊢; exact aslice_grow hg h
  | convert s d x =>
    simp only [lightVal, alight] at h ⊢
    split at h
    · exact h
    · exact h
    · rename_i hu _
      split at h
      · exact strOf_grow hg h
      · cases h
    · cases h
  | _ => first | exact h | (simp [lightVal, alight] at h)

/-! ### veq -/
mutual
theorem veq_eq : ∀ (a b : Value), veq a b = true → a = b
  | .bool a, b, h => by cases b <;> simp_all [veq]
  | .int j a, b, h => by cases b <;> simp_all [veq]
  | .float _ _, b, h => by simp [veq] at h
  | .complex _ _ _, b, h => by simp [veq] at h
  | .string a, b, h => by
    cases b <;> simp [veq] at h
    rename_i b
    obtain ⟨a⟩ := a
    obtain ⟨b⟩ := b
    have : a = b := eq_of_beq (show (a == b) = true from h)
    rw [this]
  | .pointer a, b, h => by cases b <;> simp_all [veq]
  | .slice a l c, b, h => by cases b <;> simp_all [veq]
  | .map a, b, h => by cases b <;> simp_all [veq]
  | .chan _, b, h => by simp [veq] at h
  | .func f x y, b, h => by
    cases b <;> simp [veq] at h
    rename_i g c d
    rw [h.1.1, veqA_eq x c h.1.2, veqA_eq y d h.2]
  | .nilFunc, b, h => by cases b <;> simp_all [veq]
  | .iface t v, b, h => by
    cases b <;> simp [veq] at h
    rename_i u w
    rw [h.1, veq_eq v w h.2]
  | .nilIface, b, h => by cases b <;> simp_all [veq]
  | .agg x, b, h => by
    cases b <;> simp [veq] at h
    rename_i c
    rw [veqA_eq x c h]
  | .tuple x, b, h => by
    cases b <;> simp [veq] at h
    rename_i c
    rw [veqA_eq x c h]
theorem veqA_eq : ∀ (a b : Array Value), veqA a b = true → a = b
  | ⟨l⟩, b, h => by
    simp only [veqA] at h
    have := veqL_eq l b.toList h
    cases b; simp at this; subst this; rfl
theorem veqL_eq : ∀ (l m : List Value), veqL l m = true → l = m
  | [], [], _ => rfl
  | [], _ :: _, h => by simp [veqL] at h
  | _ :: _, [], h => by simp [veqL] at h
  | a :: l, b :: m, h => by
    simp only [veqL, Bool.and_eq_true] at h
    rw [veq_eq a b h.1, veqL_eq l m h.2]
end

/-! ### What comes ahead of what -/
theorem maskOf_congr {acc acc' : List Nat} : ∀ (l : List Nat), (∀ j ∈ l, acc[j]? = acc'[j]?) → maskOf acc l = maskOf acc' l
  | [], _ => rfl
  | j :: l, h => by
    simp only [maskOf]
    rw [maskOf_congr l fun y hy => h y (List.mem_cons_of_mem _ hy), List.getD_eq_getElem?_getD, List.getD_eq_getElem?_getD, h j List.mem_cons_self]
theorem maskOf_bit {acc : List Nat} {i : Nat} : ∀ (l : List Nat), (maskOf acc l).testBit i = true → ∃ j ∈ l, i = j ∨ (acc.getD j 0).testBit i = true
  | [], h => by simp [maskOf] at h
  | j :: l, h => by
    simp only [maskOf, Nat.testBit_or, Bool.or_eq_true] at h
    rcases h with h | h | h
    · refine ⟨j, List.mem_cons_self, .inl ?_⟩
      rw [Nat.one_shiftLeft, Nat.testBit_two_pow] at h
      exact (by simpa using h : j = i).symm
    · exact ⟨j, List.mem_cons_self, .inr h⟩
    · obtain ⟨k, hk, hh⟩ := maskOf_bit l h
      exact ⟨k, List.mem_cons_of_mem _ hk, hh⟩
theorem predsOf_spec : ∀ (os : List Oper) (acc : List Nat), (∀ k o, os[k]? = some o → ∀ j ∈ directs o, j < acc.length + k) →
    (∀ k, k < acc.length → (predsOf os acc)[k]? = acc[k]?) ∧
    ∀ k o, os[k]? = some o → (predsOf os acc)[acc.length + k]? = some (maskOf (predsOf os acc) (directs o))
  | [], acc, _ => ⟨fun k _ => rfl, fun k o h => by simp at h⟩
  | o :: os, acc, hd => by
    have ih := predsOf_spec os (acc ++ [maskOf acc (directs o)]) (by
      intro k o' ho' j hj
      have := hd (k + 1) o' (by simpa using ho') j hj
      simp only [List.length_append, List.length_cons, List.length_nil]; omega)
    have hpre : ∀ k, k < acc.length → (predsOf (o :: os) acc)[k]? = acc[k]? := by
      intro k hk
      simp only [predsOf]
      rw [ih.1 k (by simp; omega), List.getElem?_append_left hk]
    refine ⟨hpre, ?_⟩
    intro k o' ho'
    cases k with
    | zero =>
      simp at ho'; subst ho'
      simp only [predsOf, Nat.add_zero]
      rw [ih.1 acc.length (by simp)]
      rw [List.getElem?_append_right (Nat.le_refl _)]
      simp only [Nat.sub_self, List.getElem?_cons_zero, Option.some.injEq]
      apply maskOf_congr
      intro j hj
      have hlt : j < acc.length := by have := hd 0 o (by simp) j hj; omega
      have := hpre j hlt
      simp only [predsOf] at this
      exact this.symm
    | succ k =>
      have := ih.2 k o' (by simpa using ho')
      simp only [predsOf]
      simp only [List.length_append, List.length_cons, List.length_nil] at this
      rw [show acc.length + (k + 1) = acc.length + (0 + 1) + k by omega]
      exact this

theorem preds_in {all : List Oper} (hd : ∀ k o, all[k]? = some o → ∀ j ∈ directs o, j < k) {D : List Nat} (hD : ∀ i ∈ D, ∀ o, all[i]? = some o → ∀ j ∈ directs o, j ∈ D) :
    ∀ (i : Nat) (o : Oper), all[i]? = some o → (∀ j ∈ directs o, j ∈ D) → ∀ j, ahead (predsOf all []) j i = true → j ∈ D := by
  intro i
  induction i using Nat.strongRecOn with
  | ind i ih =>
    intro o ho hdir j hj
    have hs := (predsOf_spec all [] (by simpa using hd)).2 i o ho
    simp only [List.length_nil, Nat.zero_add] at hs
    unfold ahead at hj
    rw [List.getD_eq_getElem?_getD, hs, Option.getD_some] at hj
    obtain ⟨j', hj', hjj⟩ := maskOf_bit _ hj
    rcases hjj with h1 | hjj
    · subst h1; exact hdir j hj'
    · have hlt := hd i o ho j' hj'
      have hj'D := hdir j' hj'
      cases ho' : all[j']? with
      | none =>
        have := (List.getElem?_eq_some_iff.1 ho).1
        rw [List.getElem?_eq_none_iff] at ho'
        omega
      | some o' => exact ih j' hlt o' ho' (hD j' hj'D o' ho') j (by unfold ahead; exact hjj)

/-! ### The orders -/
def OrdFrom (all : List Oper) : List Nat → List Nat → Prop
  | D, [] => ∀ i, i < all.length → i ∈ D
  | D, i :: l => i < all.length ∧ i ∉ D ∧ (∀ o, all[i]? = some o → ∀ j ∈ directs o, j ∈ D) ∧ OrdFrom all (D ++ [i]) l
theorem mem_directs {o : Oper} {j : Nat} : j ∈ directs o ↔ ∃ e ∈ o.after, Region.binds .any e = true ∧ e.on = j := by
  unfold directs
  simp only [List.mem_map, List.mem_filter, Array.mem_toList_iff, and_assoc]
theorem linearise_ord {ops : Array Oper} (hd : ∀ k o, ops.toList[k]? = some o → ∀ j ∈ directs o, j < k) : ∀ (fuel t : Nat) (listed : Array Bool) (D : List Nat), listed.size = ops.size →
    (∀ i, i < ops.size → (listed.getD i false = true ↔ i ∈ D)) → ((List.range ops.size).filter fun i => decide (i ∉ D)).length ≤ fuel →
    OrdFrom ops.toList D (Region.linearise.go .any ops fuel t listed [])
  | 0, t, listed, D, hsz, hl, hf => by
    simp only [Region.linearise.go, List.reverse_nil, OrdFrom]
    intro i hi
    have h0 : (List.range ops.size).filter (fun i => decide (i ∉ D)) = [] := List.eq_nil_of_length_eq_zero (by omega)
    rcases Classical.em (i ∈ D) with h | h
    · exact h
    · have : i ∈ (List.range ops.size).filter fun i => decide (i ∉ D) := by simp [h]; simpa using hi
      rw [h0] at this; cases this
  | fuel + 1, t, listed, D, hsz, hl, hf => by
    simp only [Region.linearise.go]
    change OrdFrom ops.toList D (match (Region.ready .any ops listed)[t % (Region.ready .any ops listed).length]? with
      | some i => Region.linearise.go .any ops fuel (t / (Region.ready .any ops listed).length) (listed.setIfInBounds i true) [i]
      | none => [].reverse)
    have hgt : ∀ i, i < ops.size → (listed.getD i true = false ↔ i ∉ D) := by
      intro i hi
      have h1 := hl i hi
      have h2 : listed.getD i true = listed.getD i false := by simp [show i < listed.size by omega]
      rw [h2]
      cases hx : listed.getD i false
      · simp [← h1, hx]
      · simp [← h1, hx]
    cases hi : (Region.ready .any ops listed)[t % (Region.ready .any ops listed).length]? with
    | none =>
      have hnil : Region.ready .any ops listed = [] := by
        cases hr : Region.ready .any ops listed with
        | nil => rfl
        | cons x xs =>
          rw [hr] at hi
          have hlt : t % (x :: xs).length < (x :: xs).length := Nat.mod_lt _ (by simp)
          simp at hi
          simp at hlt
          omega
      simp only [List.reverse_nil, OrdFrom]
      intro i
      induction i using Nat.strongRecOn with
      | ind i ih =>
        intro hil
        rcases Classical.em (i ∈ D) with h | h
        · exact h
        · exfalso
          have hil' : i < ops.size := by simpa using hil
          have hr : i ∈ Region.ready .any ops listed := by
            rw [mem_ready]
            refine ⟨(hgt i hil').2 h, ops[i], Array.getElem?_eq_getElem hil', ?_⟩
            intro e he hb
            have hlt : e.on < i := hd i ops[i] (by simp [hil']) e.on (mem_directs.2 ⟨e, he, hb, rfl⟩)
            exact (hl e.on (by omega)).2 (ih e.on hlt (by simp; omega))
          rw [hnil] at hr; cases hr
    | some i =>
      simp only []
      rw [linearise_go_acc, List.reverse_singleton, List.singleton_append]
      have hmem := List.mem_of_getElem? hi
      rw [mem_ready] at hmem
      obtain ⟨h0, o, ho, hall⟩ := hmem
      have hlt : i < ops.size := (Array.getElem?_eq_some_iff.1 ho).1
      have hnD := (hgt i hlt).1 h0
      refine ⟨by simpa using hlt, hnD, ?_, ?_⟩
      · intro o' ho' j hj
        have : o' = o := by simp at ho'; rw [ho] at ho'; cases ho'; rfl
        subst this
        obtain ⟨e, he, hb, rfl⟩ := mem_directs.1 hj
        have hjl : e.on < i := hd i o' (by simpa using ho) e.on hj
        exact (hl e.on (by omega)).1 (hall e he hb)
      · refine linearise_ord hd fuel _ _ (D ++ [i]) (by simpa using hsz) ?_ ?_
        · intro j hj
          by_cases e : i = j
          · subst e; simp [show i < listed.size by omega]
          · rw [getD_set_ne false e, hl j hj]; simp [Ne.symm e]
        · have hsub : ((List.range ops.size).filter fun j => decide (j ∉ D ++ [i])) = (((List.range ops.size).filter fun j => decide (j ∉ D)).filter fun j => decide (j ≠ i)) := by
            rw [List.filter_filter]
            apply List.filter_congr
            intro j _
            simp only [List.mem_append, List.mem_singleton, not_or, ne_eq, Bool.decide_and]
            exact Bool.and_comm _ _
          rw [hsub]
          have : ((((List.range ops.size).filter fun j => decide (j ∉ D)).filter fun j => decide (j ≠ i)).length < ((List.range ops.size).filter fun j => decide (j ∉ D)).length) :=
            List.length_filter_lt_length_iff_exists.2 ⟨i, by simp [hnD]; exact hlt, by simp⟩
          omega

end Go.Ab
end
section
namespace Go.Ab
open Go.RowKit
variable {P : Program} {B : Nat} {K : FuncId → List Value → Option Ans}

/-- From one to the next, numbers from 'N' on being kept for the region. -/
structure EvoN (P : Program) (B N : Nat) (ρ : Rho) (h : AH) (w : World) (ρ' : Rho) (h' : AH) (w' : World) : Prop where
  ext : Ext ρ ρ'
  inv : Inv P B ρ' h' w'
  un : ∀ i, i < N → ρ i = none → ρ' i = none
  keepU : ∀ i, i < N → ρ i = none → h'.get i = h.get i
  stay : ∀ i, i < N → h.get i = none → h'.get i = none
  frame : ∀ b, b < w.heap.size → (∀ i s, h.base ≤ i → (h.get i).isSome → ρ i ≠ some (b, s)) → w'.heap[b]? = w.heap[b]?
  range : ∀ i b s, h.base ≤ i → (h'.get i).isSome → ρ' i = some (b, s) → b < w.heap.size → ∃ j s', h.base ≤ j ∧ (h.get j).isSome ∧ ρ j = some (b, s')
  base : h'.base = h.base
  oldG : ∀ i, i < h.base → h'.get i = h.get i
  size : w.heap.size ≤ w'.heap.size
  os : w'.os = w.os
  out : w'.output = w.output
  tape : w'.tape = w.tape

theorem EvoN.evo {ρ ρ' : Rho} {h h' : AH} {w w' : World} (e : EvoN P B h.next ρ h w ρ' h' w') (hn : h.next ≤ h'.next) : Evo P B ρ h w ρ' h' w' :=
  { ext := e.ext, inv := e.inv, un := e.un, keepU := e.keepU, stay := e.stay, frame := e.frame, range := e.range, base := e.base, oldG := e.oldG, next := hn, size := e.size, os := e.os, out := e.out, tape := e.tape }
theorem EvoN.then {N : Nat} {ρ ρ1 ρ2 : Rho} {h h1 h2 : AH} {w w1 w2 : World} (a : EvoN P B N ρ h w ρ1 h1 w1) (b : Evo P B ρ1 h1 w1 ρ2 h2 w2) (hN : N ≤ h1.next) : EvoN P B N ρ h w ρ2 h2 w2 where
  ext := a.ext.trans b.ext
  inv := b.inv
  un := fun i hi hn => b.un i (Nat.lt_of_lt_of_le hi hN) (a.un i hi hn)
  keepU := fun i hi hn => (b.keepU i (Nat.lt_of_lt_of_le hi hN) (a.un i hi hn)).trans (a.keepU i hi hn)
  stay := fun i hi hn => b.stay i (Nat.lt_of_lt_of_le hi hN) (a.stay i hi hn)
  frame := fun x hx hn => by
    refine (b.frame x (Nat.lt_of_lt_of_le hx a.size) ?_).trans (a.frame x hx hn)
    intro i s hb hl he
    rw [a.base] at hb
    obtain ⟨j, s', hj1, hj2, hj3⟩ := a.range i x s hb hl he hx
    exact hn j s' hj1 hj2 hj3
  range := fun i x s hb hl he hx => by
    obtain ⟨j, s', hj1, hj2, hj3⟩ := b.range i x s (by rw [a.base]; exact hb) hl he (Nat.lt_of_lt_of_le hx a.size)
    rw [a.base] at hj1
    exact a.range j x s' hj1 hj2 hj3 hx
  base := b.base.trans a.base
  oldG := fun i hi => (b.oldG i (by rw [a.base]; exact hi)).trans (a.oldG i hi)
  size := Nat.le_trans a.size b.size
  os := b.os.trans a.os
  out := b.out.trans a.out
  tape := b.tape.trans a.tape

/-- a number that was kept is given a block -/
theorem evoN_map {N : Nat} {ρ0 ρ : Rho} {h0 g : AH} {w0 w w' : World} (e : EvoN P B N ρ0 h0 w0 ρ g w) {i : Nat} {o' : Obj} (hN : N ≤ i) (hlt : i < g.next) (hb : h0.base ≤ i) (hB : B ≤ w0.heap.size) (hn : ρ i = none)
    (hheap : w'.heap = w.heap.push o') (hos : w'.os = w.os) (hout : w'.output = w.output) (htape : w'.tape = w.tape) (hrel : ∀ o, g.get i = some o → BRel P (upd ρ i (w.heap.size, (0, 0))) (0, 0) o o') :
    EvoN P B N ρ0 h0 w0 (upd ρ i (w.heap.size, (0, 0))) g w' := by
  have hext : Ext ρ (upd ρ i (w.heap.size, (0, 0))) := Ext.upd hn
  have hi := e.inv
  have hlive : ∀ j b s, (g.get j).isSome → ρ j = some (b, s) → b < w.heap.size := fun j b s hj hr => by
    obtain ⟨o, ho⟩ := Option.isSome_iff_exists.1 hj
    obtain ⟨o2, h2, _⟩ := hi.blk j o ho b s hr
    exact (Array.getElem?_eq_some_iff.1 h2).1
  have hglob : ∀ k, k < P.globals.size → k ≠ i := fun k hk hki => by
    have := hi.glob k hk
    rw [hki, hn] at this; cases this
  refine { ext := e.ext.trans hext, inv := ?_, un := ?_, keepU := fun j hj hr => e.keepU j hj hr, stay := e.stay, frame := ?_, range := ?_, base := e.base, oldG := e.oldG, size := by rw [hheap]; simp; exact Nat.le_succ_of_le e.size, os := hos.trans e.os, out := hout.trans e.out, tape := htape.trans e.tape }
  · refine { blk := ?_, inj := ?_, low := ?_, old := ?_, fresh := ?_, freshG := hi.freshG, glob := ?_, size := by rw [hheap]; simp; exact Nat.le_succ_of_le hi.size, bn := hi.bn }
    · intro j o hg b s hr
      by_cases ej : j = i
      · subst ej
        rw [upd_same] at hr; cases hr
        exact ⟨o', by rw [hheap]; simp, hrel o hg⟩
      · rw [upd_other ej] at hr
        obtain ⟨o2, h2, h3⟩ := hi.blk j o hg b s hr
        refine ⟨o2, ?_, h3.mono hext⟩
        have := (Array.getElem?_eq_some_iff.1 h2).1
        rw [hheap, Array.getElem?_push, if_neg (by omega)]; exact h2
    · intro j k b sj sk hj hk gj gk rj rk
      by_cases ej : j = i
      · by_cases ek : k = i
        · rw [ej, ek]
        · rw [upd_other ek] at rk
          have := hlive k b sk gk rk
          subst ej; rw [upd_same] at rj; cases rj; omega
      · rw [upd_other ej] at rj
        by_cases ek : k = i
        · have := hlive j b sj gj rj
          subst ek; rw [upd_same] at rk; cases rk; omega
        · rw [upd_other ek] at rk
          exact hi.inj j k b sj sk hj hk gj gk rj rk
    · intro j b s hj gj rj
      by_cases ej : j = i
      · subst ej; rw [upd_same] at rj; cases rj; exact Nat.le_trans hB e.size
      · rw [upd_other ej] at rj; exact hi.low j b s hj gj rj
    · intro j b s hj rj
      rw [e.base] at hj
      rw [upd_other (by omega)] at rj
      exact hi.old j b s (by rw [e.base]; exact hj) rj
    · intro j hj
      rw [upd_other (by omega)]
      exact hi.fresh j hj
    · intro k hk
      rw [upd_other (hglob k hk)]
      exact hi.glob k hk
  · intro j hj hr
    rw [upd_other (by omega)]
    exact e.un j hj hr
  · intro b hlt' hno
    rw [hheap, Array.getElem?_push, if_neg (by have := e.size; omega)]
    exact e.frame b hlt' hno
  · intro j b s hj gj rj hlt'
    by_cases ej : j = i
    · subst ej; rw [upd_same] at rj; cases rj; have := e.size; omega
    · rw [upd_other ej] at rj; exact e.range j b s hj gj rj hlt'

/-- a number that was kept comes up in the text's order -/
theorem evoN_reveal {N : Nat} {ρ0 ρ : Rho} {h0 g : AH} {w0 w : World} (e : EvoN P B N ρ0 h0 w0 ρ g w) {i : Nat} {o : Blk} (hN : N ≤ i) (hlt : i < g.next) (hb : h0.base ≤ i) (hB : B ≤ w0.heap.size)
    (hrel : ∀ b s, ρ i = some (b, s) → ∃ o', w.heap[b]? = some o' ∧ BRel P ρ s o o')
    (hno : ∀ b s, ρ i = some (b, s) → w0.heap.size ≤ b ∧ ∀ j s', h0.base ≤ j → (g.get j).isSome → ρ j = some (b, s') → j = i) :
    EvoN P B N ρ0 h0 w0 ρ (g.set i (some o)) w := by
  have hi := e.inv
  have hgb : g.base ≤ i := by rw [e.base]; exact hb
  have hget : ∀ j, (g.set i (some o)).get j = if j = i then some o else g.get j := fun j => AH.get_set hgb
  have hcase : ∀ j, ((g.set i (some o)).get j).isSome → j = i ∨ (g.get j).isSome := fun j hj => by
    rw [hget] at hj
    by_cases ej : j = i
    · exact .inl ej
    · rw [if_neg ej] at hj; exact .inr hj
  refine { ext := e.ext, inv := ?_, un := e.un, keepU := ?_, stay := fun j hj hn => by rw [hget, if_neg (by omega)]; exact e.stay j hj hn, frame := e.frame, range := ?_, base := by simp; exact e.base, oldG := ?_, size := e.size, os := e.os, out := e.out, tape := e.tape }
  · refine { blk := ?_, inj := ?_, low := ?_, old := ?_, fresh := ?_, freshG := ?_, glob := hi.glob, size := hi.size, bn := by simp; exact hi.bn }
    · intro j oj gj b s rj
      rw [hget] at gj
      by_cases ej : j = i
      · subst ej; rw [if_pos rfl] at gj; cases gj; exact hrel b s rj
      · rw [if_neg ej] at gj; exact hi.blk j oj gj b s rj
    · intro j k b sj sk hj hk gj gk rj rk
      simp at hj hk
      rcases hcase j gj with ej | gj'
      · rcases hcase k gk with ek | gk'
        · rw [ej, ek]
        · subst ej; rw [e.base] at hk; exact ((hno b sj rj).2 k sk hk gk' rk).symm
      · rcases hcase k gk with ek | gk'
        · subst ek; rw [e.base] at hj; exact (hno b sk rk).2 j sj hj gj' rj
        · exact hi.inj j k b sj sk hj hk gj' gk' rj rk
    · intro j b s hj gj rj
      simp at hj
      rcases hcase j gj with ej | gj'
      · subst ej; exact Nat.le_trans hB (hno b s rj).1
      · exact hi.low j b s hj gj' rj
    · intro j b s hj rj
      simp at hj
      exact hi.old j b s hj rj
    · intro j hj
      simp at hj
      exact hi.fresh j hj
    · intro j hj
      simp at hj
      rw [hget, if_neg (by omega)]
      exact hi.freshG j hj
  · intro j hj hr
    rw [hget, if_neg (by omega)]
    exact e.keepU j hj hr
  · intro j b s hj gj rj hlt'
    rcases hcase j gj with ej | gj'
    · subst ej; have := (hno b s rj).1; omega
    · exact e.range j b s hj gj' rj hlt'
  · intro j hj
    rw [hget, if_neg (by omega)]
    exact e.oldG j hj

/-! ### The trace of the text's order -/
theorem text_trace {R : Run} {all : List Oper} {r0 : Nat} : ∀ (os : List Oper) (i : Nat) (env : List Value) (h : AH) (rs : List Rec) (e : List Value) (hN : AH), drawText P R all r0 i os env h = some (rs, e, hN) →
    ∃ (E : Nat → List Value) (H : Nat → AH) (V : Nat → Value), E 0 = env ∧ H 0 = h ∧
      (∀ j o, os[j]? = some o → drawStep P R all r0 (i + j) (E j) (H j) o = some (V j, H (j + 1)) ∧ E (j + 1) = aput (E j) o.dst (V j)) ∧
      E os.length = e ∧ H os.length = hN ∧ ∀ j, j < os.length → rs[j]? = some ⟨E j, H j, V j⟩
  | [], i, env, h, rs, e, hN, ht => by
    simp only [drawText, Option.some.injEq, Prod.mk.injEq] at ht
    obtain ⟨rfl, rfl, rfl⟩ := ht
    exact ⟨fun _ => env, fun _ => h, fun _ => undef, rfl, rfl, fun j o hj => by simp at hj, rfl, rfl, fun j hj => by simp at hj⟩
  | o :: os, i, env, h, rs, e, hN, ht => by
    simp only [drawText] at ht
    split at ht
    · rename_i v h' hs
      split at ht
      · rename_i rs' e' ht'
        simp only [Option.some.injEq, Prod.mk.injEq] at ht
        obtain ⟨rfl, rfl⟩ := ht
        obtain ⟨E, H, V, h1, h2, h3, h4, h5, h6⟩ := text_trace os (i + 1) (aput env o.dst v) h' rs' e hN ht'
        refine ⟨fun j => match j with | 0 => env | j + 1 => E j, fun j => match j with | 0 => h | j + 1 => H j, fun j => match j with | 0 => v | j + 1 => V j, rfl, rfl, ?_, h4, h5, ?_⟩
        · intro j o' hj
          cases j with
          | zero =>
            simp at hj; subst hj
            simp only [Nat.add_zero]
            exact ⟨by rw [h2]; exact hs, h1⟩
          | succ j =>
            have := h3 j o' (by simpa using hj)
            rw [show i + (j + 1) = i + 1 + j by omega]
            exact this
        · intro j hj
          cases j with
          | zero => rfl
          | succ j => simpa using h6 j (by simpa using hj)
      · cases ht
    · cases ht

/-! ### The frame, whatever was done -/
def EnvD (all : List Oper) (V : Nat → Value) (e : List Value) (D : List Nat) : List Value := D.foldl (fun e i => aput e ((all[i]?).bind (·.dst)) (V i)) e
theorem aput_len {e : List Value} {d : Option Tmp} {v : Value} : (aput e d v).length = e.length := by cases d <;> simp [aput]
theorem aput_get {e : List Value} {d : Option Tmp} {v : Value} {t : Nat} : (aput e d v)[t]? = if d = some t then (if t < e.length then some v else none) else e[t]? := by
  cases d with
  | none => simp [aput]
  | some d =>
    simp only [aput, Option.some.injEq, List.getElem?_set]
    by_cases h : d = t
    · subst h; simp
    · simp [h]
theorem EnvD_len {all : List Oper} {V : Nat → Value} : ∀ (D : List Nat) (e : List Value), (EnvD all V e D).length = e.length
  | [], e => rfl
  | i :: D, e => by
    show (EnvD all V (aput e _ (V i)) D).length = _
    rw [EnvD_len D, aput_len]
theorem EnvD_out {all : List Oper} {V : Nat → Value} {t : Nat} : ∀ (D : List Nat) (e : List Value), (∀ i ∈ D, (all[i]?).bind (·.dst) ≠ some t) → (EnvD all V e D)[t]? = e[t]?
  | [], e, _ => rfl
  | i :: D, e, h => by
    show (EnvD all V (aput e _ (V i)) D)[t]? = _
    rw [EnvD_out D _ fun j hj => h j (List.mem_cons_of_mem _ hj), aput_get, if_neg (h i List.mem_cons_self)]
theorem EnvD_in {all : List Oper} {V : Nat → Value} {t j : Nat} (hj : (all[j]?).bind (·.dst) = some t) (hu : ∀ i, (all[i]?).bind (·.dst) = some t → i = j) : ∀ (D : List Nat) (e : List Value), j ∈ D → (EnvD all V e D)[t]? = if t < e.length then some (V j) else none
  | [], e, h => by cases h
  | i :: D, e, h => by
    show (EnvD all V (aput e _ (V i)) D)[t]? = _
    by_cases hD : j ∈ D
    · rw [EnvD_in hj hu D _ hD, aput_len]
    · have hij : i = j := by rcases List.mem_cons.1 h with h1 | h1; exact h1.symm; exact absurd h1 hD
      subst hij
      rw [EnvD_out D _ fun k hk hkt => hD (hu k hkt ▸ hk), aput_get, if_pos hj]
theorem EnvD_same {all : List Oper} {V : Nat → Value} {t : Nat} {e : List Value} (hu : ∀ i j : Nat, (all[i]?).bind (·.dst) = some t → (all[j]?).bind (·.dst) = some t → i = j) {D D' : List Nat}
    (hs : ∀ j : Nat, (all[j]?).bind (·.dst) = some t → (j ∈ D ↔ j ∈ D')) : (EnvD all V e D)[t]? = (EnvD all V e D')[t]? := by
  rcases Classical.em (∃ j, j ∈ D ∧ (all[j]?).bind (·.dst) = some t) with ⟨j, hj, ht⟩ | hno
  · rw [EnvD_in ht (fun i hi => hu i j hi ht) D e hj, EnvD_in ht (fun i hi => hu i j hi ht) D' e ((hs j ht).1 hj)]
  · rw [EnvD_out D e fun i hi hit => hno ⟨i, hi, hit⟩, EnvD_out D' e fun i hi hit => hno ⟨i, (hs i hit).2 hi, hit⟩]
theorem EnvD_snoc {all : List Oper} {V : Nat → Value} {e : List Value} {D : List Nat} {i : Nat} : EnvD all V e (D ++ [i]) = aput (EnvD all V e D) ((all[i]?).bind (·.dst)) (V i) := by
  unfold EnvD; rw [List.foldl_append]; rfl

end Go.Ab
end
section
namespace Go.Ab
open Go.RowKit
variable {P : Program} {B : Nat} {K : FuncId → List Value → Option Ans}

/-- A region, and its run in the text's order. -/
structure Dr (P : Program) (R : Run) (all : List Oper) (r0 : Nat) (E : Nat → List Value) (H : Nat → AH) (V : Nat → Value) : Prop where
  step : ∀ (j : Nat) o, all[j]? = some o → drawStep P R all r0 j (E j) (H j) o = some (V j, H (j + 1))
  env : ∀ (j : Nat) o, all[j]? = some o → E (j + 1) = aput (E j) o.dst (V j)
  dir : ∀ (k : Nat) o, all[k]? = some o → ∀ j ∈ directs o, j < k
  kind : ∀ (k : Nat) o, all[k]? = some o → kindOf o.op ≠ .other
  dsts : ∀ i j : Nat, ∀ t, (all[i]?).bind (·.dst) = some t → (all[j]?).bind (·.dst) = some t → i = j
  tmps : ∀ i j : Nat, ∀ o p d, all[i]? = some o → all[j]? = some p → i ≠ j → p.dst = some d → d ∈ opTmps all o → (j < i → ahead (predsOf all []) j i = true) ∧ (i < j → ahead (predsOf all []) i j = true)
  heavy : ∀ i j : Nat, ∀ o p, all[i]? = some o → all[j]? = some p → isHeavy o.op = true → isHeavy p.op = true → j < i → ahead (predsOf all []) j i = true
  flt : ∀ i s : Nat, ∀ o, all[i]? = some o → isLight o.op = true → s ≤ all.length → (s = all.length ∨ ∃ p, all[s]? = some p ∧ isHeavy p.op = true) →
    (∀ j p, all[j]? = some p → isHeavy p.op = true → (j < s → ahead (predsOf all []) i j = false) ∧ (s ≤ j → ahead (predsOf all []) j i = false)) →
    ¬ (i < s ∧ ∀ j p, i < j → j < s → all[j]? = some p → isHeavy p.op = false) →
    aWanted ⟨all⟩ (E i) o = some true → lightVal P (aeval P (E i)) (H s) o.op = some (V i)

/-- Where the model stands: 'D' is done; the abstract heap is the text's one ahead of 's'. -/
structure St (P : Program) (B : Nat) (all : List Oper) (r0 : Nat) (E : Nat → List Value) (H : Nat → AH) (V : Nat → Value) (ρ0 : Rho) (h : AH) (w0 : World) (D : List Nat) (s : Nat) (ρ : Rho) (w : World) (tmps : List Value) : Prop where
  evo : EvoN P B r0 ρ0 h w0 ρ (H s) w
  dlt : ∀ i ∈ D, i < all.length
  closed : ∀ i ∈ D, ∀ o, all[i]? = some o → ∀ j ∈ directs o, j ∈ D
  s1 : ∀ (j : Nat) o, j < s → all[j]? = some o → isHeavy o.op = true → j ∈ D
  s3 : ∀ (j : Nat) o, all[j]? = some o → isHeavy o.op = true → j ∈ D → j < s
  sle : s ≤ all.length
  env : LRel ρ (EnvD all V (E 0) D) tmps
  nx : r0 + all.length ≤ (H s).next
  pend : ∀ (i : Nat) o b f, s ≤ i → i ∈ D → all[i]? = some o → aWanted ⟨all⟩ (E i) o = some true → aalloc P (aeval P (E i)) o.op = some (b, f) → kindOf o.op = .alloc →
    ∃ n o', ρ (r0 + i) = some (n, (0, 0)) ∧ w.heap[n]? = some o' ∧ BRel P ρ (0, 0) b o'
  resv : ∀ i n t, i < all.length → ρ (r0 + i) = some (n, t) → w0.heap.size ≤ n ∧ n < w.heap.size
  lone : ∀ i n t, s ≤ i → i < all.length → ρ (r0 + i) = some (n, t) → ∀ j s', h.base ≤ j → ((H s).get j).isSome → ρ j ≠ some (n, s')
  injR : ∀ i i' n t t', i < all.length → i' < all.length → ρ (r0 + i) = some (n, t) → ρ (r0 + i') = some (n, t') → i = i'
  unm : ∀ i, i < all.length → i ∉ D → ρ (r0 + i) = none
  unA : ∀ (i : Nat) o, all[i]? = some o → ¬ (kindOf o.op = .alloc ∧ aWanted ⟨all⟩ (E i) o = some true) → ρ (r0 + i) = none
  rev : ∀ (i : Nat) o b f, i < s → i ∉ D → all[i]? = some o → aWanted ⟨all⟩ (E i) o = some true → aalloc P (aeval P (E i)) o.op = some (b, f) → kindOf o.op = .alloc → (H s).get (r0 + i) = some b
  non : ∀ j, s ≤ j → j < all.length → (H s).get (r0 + j) = none
  gr : ∀ m, m ≤ s → (∀ (j : Nat) p, m ≤ j → j < s → all[j]? = some p → isHeavy p.op = false) → Grows (H m) (H s)
/-- 's' is the first store or call that is not done. -/
def First (all : List Oper) (D : List Nat) (s : Nat) : Prop := s = all.length ∨ ∃ o, all[s]? = some o ∧ isHeavy o.op = true ∧ s ∉ D

variable {R : Run} {all : List Oper} {r0 : Nat} {E : Nat → List Value} {H : Nat → AH} {V : Nat → Value} {ρ0 ρ : Rho} {h : AH} {w0 w : World} {D : List Nat} {s : Nat} {tmps : List Value}

theorem kind_light {op : Op} (h : isLight op = true) : kindOf op = .light ∨ kindOf op = .call := by
  cases op <;> simp [isLight, kindOf] at h ⊢
theorem not_both {op : Op} (h : isLight op = true) : isHeavy op = false ∧ kindOf op ≠ .alloc := by
  rcases kind_light h with hk | hk <;> simp [isHeavy, h, hk]

/-- what the text's order says of one operation -/
theorem Dr.cases (d : Dr P R all r0 E H V) {i : Nat} {o : Oper} (ho : all[i]? = some o) :
    (aWanted ⟨all⟩ (E i) o = some false ∧ V i = undef ∧ H (i + 1) = H i) ∨
    (aWanted ⟨all⟩ (E i) o = some true ∧ isLight o.op = true ∧ lightVal P (aeval P (E i)) (H i) o.op = some (V i) ∧ H (i + 1) = H i) ∨
    (aWanted ⟨all⟩ (E i) o = some true ∧ kindOf o.op = .alloc ∧ ∃ b f, aalloc P (aeval P (E i)) o.op = some (b, f) ∧ V i = f (r0 + i) ∧ H (i + 1) = (H i).set (r0 + i) (some b)) ∨
    (aWanted ⟨all⟩ (E i) o = some true ∧ isHeavy o.op = true ∧ heavyStep P R (aeval P (E i)) (H i) o.op = some (V i, H (i + 1))) := by
  have hs := d.step i o ho
  have hk := d.kind i o ho
  unfold drawStep at hs
  split at hs
  · cases hs
  · rename_i hw
    simp only [Option.some.injEq, Prod.mk.injEq] at hs
    exact .inl ⟨hw, hs.1.symm, hs.2.symm⟩
  · rename_i hw
    split at hs
    · rename_i hl
      simp only [Option.map_eq_some_iff] at hs
      obtain ⟨v, hv, he⟩ := hs
      simp only [Prod.mk.injEq] at he
      exact .inr (.inl ⟨hw, hl, by rw [← he.1]; exact hv, he.2.symm⟩)
    · rename_i hl
      split at hs
      · rename_i hal
        simp only [Option.map_eq_some_iff] at hs
        obtain ⟨⟨b, f⟩, hv, he⟩ := hs
        simp only [Prod.mk.injEq] at he
        exact .inr (.inr (.inl ⟨hw, by simpa using hal, b, f, hv, he.1.symm, he.2.symm⟩))
      · rename_i hal
        refine .inr (.inr (.inr ⟨hw, ?_, hs⟩))
        unfold isHeavy
        simp only [hl, Bool.not_false, Bool.and_true]
        have hal' : kindOf o.op ≠ .alloc := by simpa using hal
        have hll : kindOf o.op ≠ .light := by
          intro hh
          apply hl
          cases hop : o.op <;> rw [hop] at hh <;> simp [kindOf] at hh <;> simp [isLight, kindOf]
        cases hkk : kindOf o.op with
        | light => exact absurd hkk hll
        | alloc => exact absurd hkk hal'
        | store => rfl
        | call => rfl
        | other => exact absurd hkk hk

/-- The text's frame ahead of an operation. -/
theorem Dr.envE (d : Dr P R all r0 E H V) : ∀ i, i ≤ all.length → E i = EnvD all V (E 0) (List.range i)
  | 0, _ => rfl
  | i + 1, hi => by
    have ho : all[i]? = some all[i] := List.getElem?_eq_getElem (by omega)
    rw [d.env i _ ho, d.envE i (by omega), List.range_succ, EnvD_snoc, ho]
    rfl

theorem St.ahead_in (d : Dr P R all r0 E H V) (st : St P B all r0 E H V ρ0 h w0 D s ρ w tmps) {i : Nat} {o : Oper} (ho : all[i]? = some o) (hdir : ∀ j ∈ directs o, j ∈ D) {j : Nat} (hj : ahead (predsOf all []) j i = true) : j ∈ D :=
  preds_in d.dir st.closed i o ho hdir j hj

/-- What an operation that is next looks at is what it looks at by the text. -/
theorem St.looks (d : Dr P R all r0 E H V) (st : St P B all r0 E H V ρ0 h w0 D s ρ w tmps) {i : Nat} {o : Oper} (ho : all[i]? = some o) (hD : i ∉ D) (hdir : ∀ j ∈ directs o, j ∈ D) {t : Nat} (ht : t ∈ opTmps all o) :
    (EnvD all V (E 0) D)[t]? = (E i)[t]? := by
  have hi : i < all.length := (List.getElem?_eq_some_iff.1 ho).1
  rw [d.envE i (by omega)]
  refine EnvD_same (fun a b ha hb => d.dsts a b t ha hb) fun j hj => ?_
  rw [List.mem_range]
  cases hp : all[j]? with
  | none => rw [hp] at hj; cases hj
  | some p =>
    rw [hp] at hj
    simp only [Option.bind_some] at hj
    by_cases hji : j = i
    · subst hji; simp [hD]
    · obtain ⟨h1, h2⟩ := d.tmps i j o p t ho hp (Ne.symm hji) hj ht
      constructor
      · intro hjD
        rcases Nat.lt_or_ge j i with hlt | hge
        · exact hlt
        · exfalso
          have h3 := h2 (by omega)
          exact hD (preds_in d.dir st.closed j p hp (st.closed j hjD p hp) i h3)
      · intro hlt
        exact st.ahead_in d ho hdir (h1 hlt)
theorem St.ev (d : Dr P R all r0 E H V) (st : St P B all r0 E H V ρ0 h w0 D s ρ w tmps) {i : Nat} {o : Oper} (ho : all[i]? = some o) (hD : i ∉ D) (hdir : ∀ j ∈ directs o, j ∈ D) :
    ∀ x ∈ o.op.operands.toList, aeval P (EnvD all V (E 0) D) x = aeval P (E i) x := by
  intro x hx
  cases x with
  | tmp t =>
    have := st.looks d ho hD hdir (t := t) (by unfold opTmps; exact List.mem_append_left _ (List.mem_filterMap.2 ⟨.tmp t, hx, rfl⟩))
    simp only [aeval, List.getD_eq_getElem?_getD, this]
  | _ => rfl
theorem St.wanted (d : Dr P R all r0 E H V) (st : St P B all r0 E H V ρ0 h w0 D s ρ w tmps) {i : Nat} {o : Oper} (ho : all[i]? = some o) (hD : i ∉ D) (hdir : ∀ j ∈ directs o, j ∈ D) :
    aWanted ⟨all⟩ (EnvD all V (E 0) D) o = aWanted ⟨all⟩ (E i) o := by
  unfold aWanted
  cases hg : o.guard with
  | none => rfl
  | some x =>
    obtain ⟨j, want⟩ := x
    simp only
    cases hj : ((⟨all⟩ : Array Oper)[j]?).bind (·.dst) with
    | none => rfl
    | some t =>
      have hj' : (all[j]?).bind (·.dst) = some t := by simpa using hj
      have := st.looks d ho hD hdir (t := t) (by unfold opTmps; rw [hg]; exact List.mem_append_right _ (by simp only [hj', Option.toList_some]; exact List.mem_singleton.2 rfl))
      simp only [Option.bind_some, this]

theorem St.sameLight (d : Dr P R all r0 E H V) (st : St P B all r0 E H V ρ0 h w0 D s ρ w tmps) (hf : First all D s) {i : Nat} {o : Oper} (ho : all[i]? = some o) (hD : i ∉ D) (hdir : ∀ j ∈ directs o, j ∈ D) (hl : isLight o.op = true) (hw : aWanted ⟨all⟩ (E i) o = some true) :
    lightVal P (aeval P (E i)) (H s) o.op = some (V i) := by
  rcases Classical.em (i < s ∧ ∀ j p, i < j → j < s → all[j]? = some p → isHeavy p.op = false) with ⟨h1, h2⟩ | hno
  · rcases d.cases ho with ⟨hw', _⟩ | ⟨_, _, hv, _⟩ | ⟨_, hk, _⟩ | ⟨_, hk, _⟩
    · rw [hw'] at hw; cases hw
    · refine light_grow (st.gr i (by omega) fun j p hj1 hj2 hp => ?_) hv
      by_cases e : j = i
      · subst e; rw [ho] at hp; cases hp; exact (not_both hl).1
      · exact h2 j p (by omega) hj2 hp
    · exact absurd hk (not_both hl).2
    · rw [(not_both hl).1] at hk; cases hk
  · refine d.flt i s o ho hl st.sle (hf.imp id fun ⟨p, hp, hh, _⟩ => ⟨p, hp, hh⟩) ?_ hno hw
    intro j p hp hh
    constructor
    · intro hlt
      cases ha : ahead (predsOf all []) i j with
      | false => rfl
      | true => exact absurd (preds_in d.dir st.closed j p hp (st.closed j (st.s1 j p hlt hp hh) p hp) i ha) hD
    · intro hge
      cases ha : ahead (predsOf all []) j i with
      | false => rfl
      | true =>
        have hjD := st.ahead_in d ho hdir ha
        have := st.s3 j p hp hh hjD
        omega

end Go.Ab
end
section
namespace Go.Ab
open Go.RowKit
variable {P : Program} {B : Nat} {K : FuncId → List Value → Option Ans}
variable {R : Run} {all : List Oper} {r0 : Nat} {E : Nat → List Value} {H : Nat → AH} {V : Nat → Value} {ρ0 ρ : Rho} {h : AH} {w0 w : World} {D : List Nat} {s : Nat} {tmps : List Value}

theorem Grows.refl (g : AH) : Grows g g := fun _ _ h => h
theorem Grows.trans {a b c : AH} (h : Grows a b) (k : Grows b c) : Grows a c := fun i o x => k i o (h i o x)

/-- The text's heap goes on by an operation that is no store and no call. -/
theorem St.reveal (d : Dr P R all r0 E H V) (hr0 : h.base ≤ r0) (hB : B ≤ w0.heap.size) (st : St P B all r0 E H V ρ0 h w0 D s ρ w tmps) {o : Oper} (ho : all[s]? = some o) (hh : isHeavy o.op = false) :
    St P B all r0 E H V ρ0 h w0 D (s + 1) ρ w tmps := by
  have hs : s < all.length := (List.getElem?_eq_some_iff.1 ho).1
  have hs1 : ∀ (j : Nat) p, j < s + 1 → all[j]? = some p → isHeavy p.op = true → j ∈ D := fun j p hj hp hph => by
    by_cases e : j = s
    · subst e; rw [ho] at hp; cases hp; rw [hh] at hph; cases hph
    · exact st.s1 j p (by omega) hp hph
  have same : H (s + 1) = H s → ¬ (kindOf o.op = .alloc ∧ aWanted ⟨all⟩ (E s) o = some true) → St P B all r0 E H V ρ0 h w0 D (s + 1) ρ w tmps := fun he hnA =>
    { evo := by rw [he]; exact st.evo, dlt := st.dlt, closed := st.closed, s1 := hs1, s3 := fun j p hp hph hj => Nat.lt_succ_of_lt (st.s3 j p hp hph hj), sle := hs, env := st.env, nx := by rw [he]; exact st.nx
      pend := fun i p b f hi => st.pend i p b f (by omega), resv := st.resv, lone := fun i n t hi => by rw [he]; exact st.lone i n t (by omega), injR := st.injR, unm := st.unm, unA := st.unA
      rev := fun i p b f hi hD hp hw ha hk => by
        rw [he]
        by_cases e : i = s
        · subst e; rw [ho] at hp; cases hp; exact absurd ⟨hk, hw⟩ hnA
        · exact st.rev i p b f (by omega) hD hp hw ha hk
      non := fun j hj => by rw [he]; exact st.non j (by omega)
      gr := fun m hm hno => by
        by_cases e : m = s + 1
        · subst e; exact Grows.refl _
        · rw [he]; exact st.gr m (by omega) fun j p h1 h2 => hno j p h1 (by omega) }
  rcases d.cases ho with ⟨hw, _, he⟩ | ⟨hw, hl, _, he⟩ | ⟨hw, hk, b, f, ha, _, he⟩ | ⟨_, hk, _⟩
  · exact same he fun hx => by rw [hw] at hx; cases hx.2
  · exact same he fun hx => (not_both hl).2 hx.1
  · have hbase : (H s).base ≤ r0 + s := by rw [st.evo.base]; omega
    have hget : ∀ j, (H (s + 1)).get j = if j = r0 + s then some b else (H s).get j := fun j => by rw [he]; exact AH.get_set hbase
    have hcase : ∀ j, ((H (s + 1)).get j).isSome → j = r0 + s ∨ ((H s).get j).isSome := fun j hj => by
      rw [hget] at hj
      by_cases ej : j = r0 + s
      · exact .inl ej
      · rw [if_neg ej] at hj; exact .inr hj
    refine { evo := ?_, dlt := st.dlt, closed := st.closed, s1 := hs1, s3 := fun j p hp hph hj => Nat.lt_succ_of_lt (st.s3 j p hp hph hj), sle := hs, env := st.env, nx := by rw [he]; simp; exact st.nx,
             pend := fun i p b f hi => st.pend i p b f (by omega), resv := st.resv, lone := ?_, injR := st.injR, unm := st.unm, unA := st.unA, rev := ?_, non := ?_, gr := ?_ }
    · rw [he]
      refine evoN_reveal st.evo (by omega) (by have := st.nx; omega) (by omega) hB ?_ ?_
      · intro n t hr
        by_cases hD : s ∈ D
        · obtain ⟨n', o', h1, h2, h3⟩ := st.pend s o b f (Nat.le_refl _) hD ho hw ha hk
          rw [hr] at h1; cases h1
          exact ⟨o', h2, h3⟩
        · rw [st.unm s hs hD] at hr; cases hr
      · intro n t hr
        exact ⟨(st.resv s n t hs hr).1, fun j s' hj gj rj => absurd rj (st.lone s n t (Nat.le_refl _) hs hr j s' hj gj)⟩
    · intro i n t hi hil hr j s' hj gj
      rcases hcase j gj with ej | gj'
      · subst ej
        intro rj
        have := st.injR i s n t s' hil hs hr rj
        omega
      · exact st.lone i n t (by omega) hil hr j s' hj gj'
    · intro i p b' f' hi hD hp hw' ha' hk'
      rw [hget]
      by_cases e : i = s
      · subst e
        rw [ho] at hp; cases hp
        rw [ha] at ha'; cases ha'
        rw [if_pos rfl]
      · rw [if_neg (by omega)]
        exact st.rev i p b' f' (by omega) hD hp hw' ha' hk'
    · intro j hj hjl
      rw [hget, if_neg (by omega)]
      exact st.non j (by omega) hjl
    · intro m hm hno
      by_cases e : m = s + 1
      · subst e; exact Grows.refl _
      · refine (st.gr m (by omega) fun j p h1 h2 => hno j p h1 (by omega)).trans ?_
        intro j x hx
        rw [hget, if_neg]
        · exact hx
        · intro ej; subst ej
          rw [st.non s (Nat.le_refl _) hs] at hx; cases hx
  · rw [hk] at hh; cases hh

theorem St.advance (d : Dr P R all r0 E H V) (hr0 : h.base ≤ r0) (hB : B ≤ w0.heap.size) : ∀ (n s : Nat), all.length - s = n → St P B all r0 E H V ρ0 h w0 D s ρ w tmps → ∃ s', St P B all r0 E H V ρ0 h w0 D s' ρ w tmps ∧ First all D s'
  | 0, s, hn, st => ⟨s, st, .inl (by have := st.sle; omega)⟩
  | n + 1, s, hn, st => by
    have ho : all[s]? = some all[s] := List.getElem?_eq_getElem (by omega)
    cases hh : isHeavy all[s].op with
    | true => exact ⟨s, st, .inr ⟨_, ho, hh, fun hD => by have := st.s3 s _ ho hh hD; omega⟩⟩
    | false => exact St.advance d hr0 hB n (s + 1) (by omega) (st.reveal d hr0 hB ho hh)

theorem snoc_closed {i : Nat} {o : Oper} (hc : ∀ i ∈ D, ∀ o, all[i]? = some o → ∀ j ∈ directs o, j ∈ D) (ho : all[i]? = some o) (hdir : ∀ j ∈ directs o, j ∈ D) :
    ∀ k ∈ D ++ [i], ∀ p, all[k]? = some p → ∀ j ∈ directs p, j ∈ D ++ [i] := by
  intro k hk p hp j hj
  rcases List.mem_append.1 hk with h1 | h1
  · exact List.mem_append_left _ (hc k h1 p hp j hj)
  · have : k = i := by simpa using h1
    subst this
    rw [ho] at hp; cases hp
    exact List.mem_append_left _ (hdir j hj)
theorem snoc_env {i : Nat} {o : Oper} (ho : all[i]? = some o) {v' : Value} (he : LRel ρ (EnvD all V (E 0) D) tmps) (hv : VRel ρ (V i) v') : LRel ρ (EnvD all V (E 0) (D ++ [i])) (aput tmps o.dst v') := by
  rw [EnvD_snoc, ho]
  simp only [Option.bind_some]
  cases o.dst with
  | none => exact he
  | some dd => exact he.set dd hv

/-- an operation that makes no block: its value -/
theorem St.value (st : St P B all r0 E H V ρ0 h w0 D s ρ w tmps) {i : Nat} {o : Oper} (ho : all[i]? = some o) (hdir : ∀ j ∈ directs o, j ∈ D) (hh : isHeavy o.op = false) (hnA : ¬ (kindOf o.op = .alloc ∧ aWanted ⟨all⟩ (E i) o = some true))
    {v' : Value} (hv : VRel ρ (V i) v') : St P B all r0 E H V ρ0 h w0 (D ++ [i]) s ρ w (aput tmps o.dst v') where
  evo := st.evo
  dlt := fun k hk => by
    rcases List.mem_append.1 hk with h1 | h1
    · exact st.dlt k h1
    · have : k = i := by simpa using h1
      subst this; exact (List.getElem?_eq_some_iff.1 ho).1
  closed := snoc_closed st.closed ho hdir
  s1 := fun j p hj hp hph => List.mem_append_left _ (st.s1 j p hj hp hph)
  s3 := fun j p hp hph hj => by
    rcases List.mem_append.1 hj with h1 | h1
    · exact st.s3 j p hp hph h1
    · have : j = i := by simpa using h1
      subst this; rw [ho] at hp; cases hp; rw [hh] at hph; cases hph
  sle := st.sle
  env := snoc_env ho st.env hv
  nx := st.nx
  pend := fun k p b f hk hkD hp hw ha hkk => by
    rcases List.mem_append.1 hkD with h1 | h1
    · exact st.pend k p b f hk h1 hp hw ha hkk
    · have : k = i := by simpa using h1
      subst this; rw [ho] at hp; cases hp; exact absurd ⟨hkk, hw⟩ hnA
  resv := st.resv
  lone := st.lone
  injR := st.injR
  unm := fun k hk hD => st.unm k hk fun hh' => hD (List.mem_append_left _ hh')
  unA := st.unA
  rev := fun k p b f hk hD => st.rev k p b f hk fun hh' => hD (List.mem_append_left _ hh')
  non := st.non
  gr := st.gr

/-- an operation that makes a block -/
theorem St.block (st : St P B all r0 E H V ρ0 h w0 D s ρ w tmps) (hr0 : h.base ≤ r0) (hB : B ≤ w0.heap.size) {i : Nat} {o : Oper} (ho : all[i]? = some o) (hD : i ∉ D) (hdir : ∀ j ∈ directs o, j ∈ D) (hk : kindOf o.op = .alloc) (hw : aWanted ⟨all⟩ (E i) o = some true)
    {b : Blk} {f : Nat → Value} (ha : aalloc P (aeval P (E i)) o.op = some (b, f)) {o' : Obj} (hb : BRel P ρ (0, 0) b o') {v' : Value} (hv : VRel (upd ρ (r0 + i) (w.heap.size, (0, 0))) (V i) v') :
    St P B all r0 E H V ρ0 h w0 (D ++ [i]) s (upd ρ (r0 + i) (w.heap.size, (0, 0))) (w.alloc o') (aput tmps o.dst v') := by
  have hil : i < all.length := (List.getElem?_eq_some_iff.1 ho).1
  have hn := st.unm i hil hD
  have hext : Ext ρ (upd ρ (r0 + i) (w.heap.size, (0, 0))) := Ext.upd hn
  have hother : ∀ k, k ≠ i → upd ρ (r0 + i) (w.heap.size, (0, 0)) (r0 + k) = ρ (r0 + k) := fun k hk => upd_other (by omega)
  have hlive : ∀ j n t, ((H s).get j).isSome → ρ j = some (n, t) → n < w.heap.size := fun j n t hj hr => by
    obtain ⟨x, hx⟩ := Option.isSome_iff_exists.1 hj
    obtain ⟨o2, h2, _⟩ := st.evo.inv.blk j x hx n t hr
    exact (Array.getElem?_eq_some_iff.1 h2).1
  have hheavy : isHeavy o.op = false := by simp [isHeavy, hk]
  refine { evo := ?_, dlt := ?_, closed := snoc_closed st.closed ho hdir, s1 := fun j p hj hp hph => List.mem_append_left _ (st.s1 j p hj hp hph), s3 := ?_, sle := st.sle, env := snoc_env ho (LRel.mono hext _ _ st.env) hv, nx := st.nx,
           pend := ?_, resv := ?_, lone := ?_, injR := ?_, unm := ?_, unA := ?_, rev := ?_, non := st.non, gr := st.gr }
  · refine evoN_map st.evo (by omega) (by have := st.nx; omega) (by omega) hB hn rfl rfl rfl rfl ?_
    intro x hx
    rcases Nat.lt_or_ge i s with h1 | h1
    · have := st.rev i o b f h1 hD ho hw ha hk
      rw [this] at hx; cases hx
      exact hb.mono hext
    · rw [st.non i h1 hil] at hx; cases hx
  · intro k hk'
    rcases List.mem_append.1 hk' with h1 | h1
    · exact st.dlt k h1
    · have : k = i := by simpa using h1
      subst this; exact hil
  · intro j p hp hph hj
    rcases List.mem_append.1 hj with h1 | h1
    · exact st.s3 j p hp hph h1
    · have : j = i := by simpa using h1
      subst this; rw [ho] at hp; cases hp; rw [hheavy] at hph; cases hph
  · intro k p b' f' hks hkD hp hw' ha' hk'
    by_cases e : k = i
    · subst e
      rw [ho] at hp; cases hp
      rw [ha] at ha'; cases ha'
      exact ⟨w.heap.size, o', upd_same, by show (w.heap.push o')[w.heap.size]? = some o'; simp, hb.mono hext⟩
    · have hkD' : k ∈ D := by
        rcases List.mem_append.1 hkD with h1 | h1
        · exact h1
        · exact absurd (by simpa using h1) e
      obtain ⟨n, o2, h1, h2, h3⟩ := st.pend k p b' f' hks hkD' hp hw' ha' hk'
      refine ⟨n, o2, by rw [hother k e]; exact h1, ?_, h3.mono hext⟩
      have := (Array.getElem?_eq_some_iff.1 h2).1
      simp only [World.alloc, Array.getElem?_push]
      rw [if_neg (by omega)]; exact h2
  · intro k n t hkl hr
    by_cases e : k = i
    · subst e; rw [upd_same] at hr; cases hr
      exact ⟨st.evo.size, by simp⟩
    · rw [hother k e] at hr
      have := st.resv k n t hkl hr
      exact ⟨this.1, by simp; omega⟩
  · intro k n t hks hkl hr j s' hj gj
    by_cases e : k = i
    · subst e; rw [upd_same] at hr; cases hr
      by_cases ej : j = r0 + k
      · subst ej; rw [st.non k hks hkl] at gj; cases gj
      · rw [upd_other ej]
        intro rj
        have := hlive j _ _ gj rj
        omega
    · rw [hother k e] at hr
      by_cases ej : j = r0 + i
      · subst ej; rw [upd_same]
        intro hx; cases hx
        have := (st.resv k w.heap.size t hkl hr).2
        omega
      · rw [upd_other ej]; exact st.lone k n t hks hkl hr j s' hj gj
  · intro k k' n t t' hkl hkl' hr hr'
    by_cases e : k = i
    · by_cases e' : k' = i
      · rw [e, e']
      · subst e; rw [upd_same] at hr; cases hr
        rw [hother k' e'] at hr'
        have := (st.resv k' w.heap.size t' hkl' hr').2
        omega
    · rw [hother k e] at hr
      by_cases e' : k' = i
      · subst e'; rw [upd_same] at hr'; cases hr'
        have := (st.resv k w.heap.size t hkl hr).2
        omega
      · rw [hother k' e'] at hr'
        exact st.injR k k' n t t' hkl hkl' hr hr'
  · intro k hkl hkD
    have e : k ≠ i := fun e => hkD (by simp [e])
    rw [hother k e]
    exact st.unm k hkl fun hh' => hkD (List.mem_append_left _ hh')
  · intro k p hp hnA
    have e : k ≠ i := fun e => by subst e; rw [ho] at hp; cases hp; exact hnA ⟨hk, hw⟩
    rw [hother k e]
    exact st.unA k p hp hnA
  · intro k p b' f' hks hkD
    exact st.rev k p b' f' hks fun hh' => hkD (List.mem_append_left _ hh')

/-- a store, or a call -/
theorem St.loud (st : St P B all r0 E H V ρ0 h w0 D s ρ w tmps) {o : Oper} (ho : all[s]? = some o) (hsD : s ∉ D) (hh : isHeavy o.op = true) (hdir : ∀ j ∈ directs o, j ∈ D) {ρ1 : Rho} {w1 : World} (ev : Evo P B ρ (H s) w ρ1 (H (s + 1)) w1) {v' : Value} (hv : VRel ρ1 (V s) v') :
    St P B all r0 E H V ρ0 h w0 (D ++ [s]) (s + 1) ρ1 w1 (aput tmps o.dst v') := by
  have hsl : s < all.length := (List.getElem?_eq_some_iff.1 ho).1
  have hback : ∀ k x, k < all.length → ρ1 (r0 + k) = some x → ρ (r0 + k) = some x := fun k x hk hr => by
    cases hx : ρ (r0 + k) with
    | none =>
      have := ev.un (r0 + k) (by have := st.nx; omega) hx
      rw [hr] at this; cases this
    | some y => have := ev.ext _ _ hx; rw [hr] at this; exact this.symm
  refine { evo := st.evo.then ev (by have := st.nx; omega), dlt := ?_, closed := snoc_closed st.closed ho hdir, s1 := ?_, s3 := ?_, sle := hsl, env := snoc_env ho (LRel.mono ev.ext _ _ st.env) hv, nx := Nat.le_trans st.nx ev.next,
           pend := ?_, resv := ?_, lone := ?_, injR := ?_, unm := ?_, unA := ?_, rev := ?_, non := ?_, gr := ?_ }
  · intro k hk
    rcases List.mem_append.1 hk with h1 | h1
    · exact st.dlt k h1
    · have : k = s := by simpa using h1
      subst this; exact hsl
  · intro j p hj hp hph
    by_cases e : j = s
    · simp [e]
    · exact List.mem_append_left _ (st.s1 j p (by omega) hp hph)
  · intro j p hp hph hj
    rcases List.mem_append.1 hj with h1 | h1
    · exact Nat.lt_succ_of_lt (st.s3 j p hp hph h1)
    · have : j = s := by simpa using h1
      omega
  · intro k p b f hk hkD hp hw ha hkk
    have hkD' : k ∈ D := by
      rcases List.mem_append.1 hkD with h1 | h1
      · exact h1
      · have : k = s := by simpa using h1
        omega
    obtain ⟨n, o', h1, h2, h3⟩ := st.pend k p b f (by omega) hkD' hp hw ha hkk
    refine ⟨n, o', ev.ext _ _ h1, ?_, h3.mono ev.ext⟩
    rw [ev.frame n (Array.getElem?_eq_some_iff.1 h2).1 fun j t hj gj => st.lone k n (0, 0) (by omega) (st.dlt k hkD') h1 j t (by rw [← st.evo.base]; exact hj) gj]
    exact h2
  · intro k n t hk hr
    have := st.resv k n t hk (hback k _ hk hr)
    exact ⟨this.1, Nat.lt_of_lt_of_le this.2 ev.size⟩
  · intro k n t hks hk hr j t' hj gj rj
    have hr' := hback k _ hk hr
    have hn := (st.resv k n t hk hr').2
    obtain ⟨j', t2, h1, h2, h3⟩ := ev.range j n t' (by rw [st.evo.base]; exact hj) gj rj hn
    exact st.lone k n t (by omega) hk hr' j' t2 (by rw [← st.evo.base]; exact h1) h2 h3
  · intro k k' n t t' hk hk' hr hr'
    exact st.injR k k' n t t' hk hk' (hback k _ hk hr) (hback k' _ hk' hr')
  · intro k hk hkD
    exact ev.un _ (by have := st.nx; omega) (st.unm k hk fun hh' => hkD (List.mem_append_left _ hh'))
  · intro k p hp hnA
    exact ev.un _ (by have := st.nx; have := (List.getElem?_eq_some_iff.1 hp).1; omega) (st.unA k p hp hnA)
  · intro k p b f hk hkD hp hw ha hkk
    have hks : k ≠ s := fun e => hkD (by simp [e])
    have hkD' : k ∉ D := fun hh' => hkD (List.mem_append_left _ hh')
    have hkl := (List.getElem?_eq_some_iff.1 hp).1
    rw [ev.keepU (r0 + k) (by have := st.nx; omega) (st.unm k hkl hkD')]
    exact st.rev k p b f (by omega) hkD' hp hw ha hkk
  · intro j hj hjl
    exact ev.stay _ (by have := st.nx; omega) (st.non j (by omega) hjl)
  · intro m hm hno
    by_cases e : m = s + 1
    · subst e; exact Grows.refl _
    · have := hno s o (by omega) (by omega) ho
      rw [hh] at this; cases this

theorem put_list {a : Act} {d : Option Tmp} {v : Value} : (a.put d v).tmps.toList = aput a.tmps.toList d v := by cases d <;> simp [Act.put, aput]

/-- 'len', 'min' and 'max': nothing is made or written. -/
theorem lit_sound {args args' : List Value} {b : Builtin} {argTypes : Array TypeId} {ty : TypeId} {consts : Array Bool} {v : Value} {h h' : AH} {w : World} {ρ : Rho} (hb : litBuiltin b = true) (ha : LRel ρ args args') (hv : abuiltin P h b argTypes args = some (v, h')) :
    ∃ v', VRel ρ v v' ∧ (builtin b argTypes ty consts ⟨args'⟩).run P w = .ok (.value v') w := by
  unfold abuiltin at hv
  split at hv
  · -- len
    rename_i x
    simp only [LRel] at ha
    obtain ⟨x', t, hx, rfl, rfl⟩ := ha
    have key : ∀ (t : TypeId) (n : Nat), argTypes[0]? = some t → (Builtin.len_ argTypes ty #[x']).run P w = .ok (goInt n) w → ∃ v', VRel ρ (.int .i64 n) v' ∧ (builtin .len argTypes ty consts ⟨[x']⟩).run P w = .ok (.value v') w :=
      fun t n _ hr => ⟨.int .i64 n, by simp only [VRel], by
        show (do pure (Next.value (← Builtin.len_ argTypes ty #[x'])) : Sem Next).run P w = _
        simp only [Sem.run_bind, hr, Result.andThen_ok]; rfl⟩
    cases h0 : argTypes[0]? with
    | none => rw [h0] at hv; simp at hv
    | some t =>
      rw [h0] at hv
      simp only [Option.bind_some] at hv
      split at hv
      · rename_i s hd
        simp only [Option.some.injEq, Prod.mk.injEq] at hv
        obtain ⟨rfl, rfl⟩ := hv
        simp only [VRel] at hx; subst hx
        exact key t _ h0 (by simp [Builtin.len_, h0, run_underlying hd])
      · rename_i n e hd
        simp only [Option.some.injEq, Prod.mk.injEq] at hv
        obtain ⟨rfl, rfl⟩ := hv
        exact key t _ h0 (by simp [Builtin.len_, h0, run_underlying hd])
      · rename_i e hd
        split at hv
        · rename_i n e2 hd2
          simp only [Option.some.injEq, Prod.mk.injEq] at hv
          obtain ⟨rfl, rfl⟩ := hv
          exact key t _ h0 (by simp [Builtin.len_, h0, run_underlying hd, run_underlying hd2])
        · cases hv
      · rename_i e a n c hd
        simp only [Option.some.injEq, Prod.mk.injEq] at hv
        obtain ⟨rfl, rfl⟩ := hv
        cases a with
        | none => simp only [VRel] at hx; subst hx; exact key t _ h0 (by simp [Builtin.len_, h0, run_underlying hd])
        | some a =>
          obtain ⟨_, _, sp⟩ := a
          cases sp with
          | none => simp only [VRel] at hx; obtain ⟨_, _, _, _, _, _, rfl⟩ := hx; exact key t _ h0 (by simp [Builtin.len_, h0, run_underlying hd])
          | some _ => simp only [VRel] at hx; obtain ⟨rfl, _, _, _, _, _, rfl⟩ := hx; exact key t _ h0 (by simp [Builtin.len_, h0, run_underlying hd])
      · cases hv
  · simp [litBuiltin] at hb
  · simp [litBuiltin] at hb
  · simp [litBuiltin] at hb
  · -- min
    rename_i k x k' y
    simp only [LRel] at ha
    obtain ⟨x', _, hx, ⟨y', _, hy, rfl, rfl⟩, rfl⟩ := ha
    simp only [VRel] at hx hy; subst hx; subst hy
    simp only [Option.some.injEq, Prod.mk.injEq] at hv
    obtain ⟨rfl, rfl⟩ := hv
    exact ⟨_, by simp only [VRel]; rfl, by simp [builtin, Builtin.min_, Builtin.min2]⟩
  · -- max
    rename_i k x k' y
    simp only [LRel] at ha
    obtain ⟨x', _, hx, ⟨y', _, hy, rfl, rfl⟩, rfl⟩ := ha
    simp only [VRel] at hx hy; subst hx; subst hy
    simp only [Option.some.injEq, Prod.mk.injEq] at hv
    obtain ⟨rfl, rfl⟩ := hv
    exact ⟨_, by simp only [VRel]; rfl, by simp [builtin, Builtin.max_, Builtin.max2]⟩
  · cases hv

/-- WHATEVER THE ORDER. -/
theorem draw_steps (C : Ctx P B K) (hR : RunOk C R) {ops : Array Oper} (hall : ops.toList = all) (d : Dr P R all r0 E H V) (hr0 : h.base ≤ r0) (hB : B ≤ w0.heap.size) (hi0 : Inv P B ρ0 h w0) (hg0 : C.G w0) {b : Frame} {cs : List Frame} {k : List Item} :
    ∀ (l : List Nat) (D : List Nat) (s : Nat) (ρ : Rho) (w : World) (a : Act), OrdFrom all D l → First all D s → St P B all r0 E H V ρ0 h w0 D s ρ w a.tmps.toList →
      ∃ D' ρ' w' a', St P B all r0 E H V ρ0 h w0 D' all.length ρ' w' a'.tmps.toList ∧ (∀ i, i < all.length → i ∈ D') ∧ a'.defers = a.defers ∧ Steps P (lone (b.atR a (.inRegion ops l :: k)) cs w) (lone (b.atR a' (.inRegion ops [] :: k)) cs w')
  | [], D, s, ρ, w, a, hord, hf, st => by
    have : s = all.length := by
      rcases hf with h1 | ⟨o, ho, _, hD⟩
      · exact h1
      · exact absurd (hord s (List.getElem?_eq_some_iff.1 ho).1) hD
    subst this
    exact ⟨D, ρ, w, a, st, hord, rfl, Steps.refl _ _⟩
  | i :: l, D, s, ρ, w, a, hord, hf, st => by
    obtain ⟨hil, hD, hdirs, hord'⟩ := hord
    have ho : all[i]? = some all[i] := List.getElem?_eq_getElem hil
    have ho' : ops[i]? = some all[i] := by rw [← Array.getElem?_toList, hall]; exact ho
    have hopsA : ops = ⟨all⟩ := by rw [← hall]
    have hdir := hdirs _ ho
    generalize all[i] = o at ho ho' hdir
    have hwsame := st.wanted d ho hD hdir
    have hevsame := st.ev d ho hD hdir
    have hG : C.G w := by
      have hbelow : Below B w0 w := ⟨st.evo.os, st.evo.tape, st.evo.out, st.evo.size, fun x hx => st.evo.frame x (Nat.lt_of_lt_of_le hx hB) fun j t hj gj hr => absurd (hi0.low j x t hj gj hr) (Nat.not_le.2 hx)⟩
      exact C.keep _ _ hbelow hg0
    have hev := aeval_rel st.evo.inv st.env
    -- how the rest goes on
    have go : ∀ (s1 : Nat) (ρ1 : Rho) (w1 : World) (a1 : Act), St P B all r0 E H V ρ0 h w0 (D ++ [i]) s1 ρ1 w1 a1.tmps.toList → a1.defers = a.defers → Steps P (lone (b.atR a (.inRegion ops (i :: l) :: k)) cs w) (lone (b.atR a1 (.inRegion ops l :: k)) cs w1) →
        ∃ D' ρ' w' a', St P B all r0 E H V ρ0 h w0 D' all.length ρ' w' a'.tmps.toList ∧ (∀ i, i < all.length → i ∈ D') ∧ a'.defers = a.defers ∧ Steps P (lone (b.atR a (.inRegion ops (i :: l) :: k)) cs w) (lone (b.atR a' (.inRegion ops [] :: k)) cs w') := by
      intro s1 ρ1 w1 a1 st1 hd1 hs1
      obtain ⟨s2, st2, hf2⟩ := st1.advance d hr0 hB _ _ rfl
      obtain ⟨D', ρ', w', a', g1, g2, g3, g4⟩ := draw_steps C hR hall d hr0 hB hi0 hg0 l (D ++ [i]) s2 ρ1 w1 a1 hord' hf2 st2
      exact ⟨D', ρ', w', a', g1, g2, g3.trans hd1, hs1.trans g4⟩
    -- a store or a call comes up where the text's heap stands
    have heavyAt : isHeavy o.op = true → i = s := by
      intro hh
      rcases Nat.lt_or_ge i s with h1 | h1
      · exact absurd (st.s1 i o h1 ho hh) hD
      · by_cases e : i = s
        · exact e
        · exfalso
          rcases hf with h2 | ⟨p, hp, hph, hsD⟩
          · omega
          · exact hsD (st.ahead_in d ho hdir (d.heavy i s o p ho hp hh hph (by omega)))
    rcases d.cases ho with ⟨hw, hvu, he⟩ | ⟨hw, hl, hv, he⟩ | ⟨hw, hk, bl, f, ha, hvf, he⟩ | ⟨hw, hh, hv⟩
    · -- passed over
      have hw' : Region.wanted o (yielded ops a.tmps) = false := by
        rw [hopsA]; exact wanted_rel st.env (by rw [hwsame]; exact hw)
      have hstep : step P (lone (b.atR a (.inRegion ops (i :: l) :: k)) cs w) = .next (lone (b.atR (a.put o.dst undef) (.inRegion ops l :: k)) cs w) := by
        have := stepR_op_skip (P := P) (b := b) (a := a) (k := k) (cs := cs) (w := w) (ops := ops) (i := i) (rest := l) (by rw [ho']; simpa using hw')
        rw [ho'] at this
        exact this
      have hvr : VRel ρ (V i) undef := by rw [hvu]; exact undef_rel
      cases hh : isHeavy o.op with
      | true =>
        have his := heavyAt hh
        subst his
        refine go (i + 1) ρ w (a.put o.dst undef) ?_ put_defers (.one hstep)
        rw [put_list]
        exact st.loud ho hD hh hdir (by rw [he]; exact Evo.refl st.evo.inv) hvr
      | false =>
        refine go s ρ w (a.put o.dst undef) ?_ put_defers (.one hstep)
        rw [put_list]
        exact st.value ho hdir hh (fun hx => by rw [hw] at hx; cases hx.2) hvr
    · -- it makes nothing, and writes nothing
      have hw' : Region.wanted o (yielded ops a.tmps) = true := by
        rw [hopsA]; exact wanted_rel st.env (by rw [hwsame]; exact hw)
      have hval := st.sameLight d hf ho hD hdir hl hw
      rw [← light_congr o.op hevsame] at hval
      have hone : ∃ v', VRel ρ (V i) v' ∧ Steps P (lone (b.atR a (.inRegion ops (i :: l) :: k)) cs w) (lone (b.atR (a.put o.dst v') (.inRegion ops l :: k)) cs w) := by
        obtain ⟨dst, op, ty, pos, after, guard⟩ := o
        simp only at hval hl
        rcases kind_light hl with hk | hk
        · have hal : alight P (aeval P (EnvD all V (E 0) D)) (H s) op = some (V i) := by
            cases op <;> first | exact hval | (simp [kindOf] at hk)
          obtain ⟨v', hr, hrel⟩ := light_sound st.evo.inv hev { dst := dst, op := op, type := ty, pos := pos, after := after, guard := guard } hal
          exact ⟨v', hrel, .one (stepV ho' hw' (kind_not_defer (by rw [hk]; simp)) hr)⟩
        · cases op with
          | call c =>
            obtain ⟨callee, args, argTypes⟩ := c
            cases callee with
            | builtin bi =>
              simp only [lightVal] at hval
              split at hval
              · rename_i hbi
                simp only [Option.map_eq_some_iff] at hval
                obtain ⟨⟨u, g1⟩, hbv, hu⟩ := hval
                simp only at hu; subst hu
                obtain ⟨v', hrel, hr⟩ := lit_sound (ty := ty) (consts := args.map fun | .const _ => true | _ => false) (args' := args.toList.map a.eval) (w := w) hbi (LRel.map_ev hev _) hbv
                refine ⟨v', hrel, .one (stepV ho' hw' (fun c hc => by cases hc) ?_)⟩
                have : args.map a.eval = ⟨args.toList.map a.eval⟩ := Array.ext' (by simp)
                simp only [execOp, resolve, Sem.run_bind, Sem.run_pure, Result.andThen_ok, invoke]
                rw [this]
                exact hr
              · cases hval
            | _ => simp [lightVal] at hval
          | _ => simp [kindOf] at hk
      obtain ⟨v', hrel, hs⟩ := hone
      refine go s ρ w (a.put o.dst v') ?_ put_defers hs
      rw [put_list]
      exact st.value ho hdir (not_both hl).1 (fun hx => (not_both hl).2 hx.1) hrel
    · -- it makes a block
      have hw' : Region.wanted o (yielded ops a.tmps) = true := by
        rw [hopsA]; exact wanted_rel st.env (by rw [hwsame]; exact hw)
      have ha' := ha
      rw [← aalloc_congr o.op hevsame] at ha'
      obtain ⟨o', g, hb, hr, hval⟩ := alloc_sound (P := P) (w := w) hev o ha'
      refine go s (upd ρ (r0 + i) (w.heap.size, (0, 0))) (w.alloc o') (a.put o.dst (g w.heap.size)) ?_ put_defers (.one (stepV ho' hw' (kind_not_defer (by rw [hk]; simp)) hr))
      rw [put_list]
      exact st.block hr0 hB ho hD hdir hk hw ha hb (by rw [hvf]; exact hval _ _ (0, 0) rfl upd_same)
    · -- a store, or a call
      have hw' : Region.wanted o (yielded ops a.tmps) = true := by
        rw [hopsA]; exact wanted_rel st.env (by rw [hwsame]; exact hw)
      have his := heavyAt hh
      subst his
      rw [← heavy_congr o.op hevsame] at hv
      obtain ⟨ρ1, w1, v1, e1, r1, s1⟩ := heavy_sound C hR st.evo.inv hG hev k cs ho' hw' (b := b) (is := l) hv
      refine go (i + 1) ρ1 w1 (a.put o.dst v1) ?_ put_defers s1
      rw [put_list]
      exact st.loud ho hD hh hdir e1 r1

end Go.Ab
end
