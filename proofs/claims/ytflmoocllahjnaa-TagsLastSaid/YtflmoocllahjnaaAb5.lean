/- The abstract machine: its operations are the model's (those that make nothing, and write nothing; those that make one block; a store). -/
import Derived.Test.YtflmoocllahjnaaAb4
namespace Go.Ab
open Go.RowKit
variable {P : Program} {B : Nat} {ρ : Rho} {h : AH} {w : World}

theorem info_of_cells {t : TypeId} (hn : P.cellsOf t ≠ 0) : ∃ i, P.info? t = some i ∧ i.size = P.cellsOf t := by
  unfold Program.cellsOf at hn ⊢
  cases hi : P.info? t with
  | none => simp [hi] at hn
  | some i => exact ⟨i, rfl, by simp⟩
theorem size_run {t : TypeId} {i : TypeInfo} (hi : P.info? t = some i) : (sizeOf t).run P w = .ok (P.cellsOf t) w := by
  simp [sizeOf, typeInfo, hi, Program.cellsOf]
theorem underlying_info {t : TypeId} {d : TypeDesc} (hd : P.underlying t = some d) : ∃ i, P.info? t = some i := by
  unfold Program.underlying at hd
  cases hi : P.info? t with
  | none => simp [hi] at hd
  | some i => exact ⟨i, rfl⟩
theorem agg_run {t : TypeId} {b : Bool} (hb : aggOf P t = some b) : (isAgg t).run P w = .ok b w := by
  unfold aggOf at hb
  cases hd : P.underlying t with
  | none => simp [hd] at hb
  | some d =>
    rw [hd] at hb
    simp only [Option.map_some, Option.some.injEq] at hb
    unfold isAgg
    simp only [Sem.run_bind, run_underlying hd, Result.andThen_ok]
    subst hb
    cases d <;> rfl
theorem agg_info {t : TypeId} {b : Bool} (hb : aggOf P t = some b) : ∃ i, P.info? t = some i := by
  unfold aggOf at hb
  cases hd : P.underlying t with
  | none => simp [hd] at hb
  | some d => exact underlying_info hd

theorem zero_run {e : TypeId} {z : List Value} (hz : zeroOf P e = some z) :
    ∃ i zv, P.info? e = some i ∧ i.zero = some zv ∧ (zeroValue e).run P w = .ok zv w ∧ zv.cells.toList = z ∧ z.length = P.cellsOf e ∧ (∀ ρ : Rho, LRel ρ z z) := by
  unfold zeroOf at hz
  cases hi : P.info? e with
  | none => simp [hi] at hz
  | some i =>
    cases hz0 : i.zero with
    | none => simp [hi, hz0] at hz
    | some zv =>
      simp only [hi, hz0, Option.bind_some] at hz
      split at hz
      · rename_i hc
        simp only [Bool.and_eq_true, beq_iff_eq] at hc
        cases hz
        refine ⟨i, zv, rfl, hz0, by simp [zeroValue, typeInfo, hi, hz0], rfl, by simpa using hc.2, fun ρ => ?_⟩
        have hp := plainV_rel (ρ := ρ) zv hc.1.1
        exact hp.cells (by cases zv <;> first | rfl | simp [plainV] at hc)
      · cases hz

theorem part_run {t : TypeId} {cs cs' : List Value} {off : Nat} {v : Value} (hv : apart P t cs off = some v) (hc : LRel ρ cs cs') :
    ∃ v', (part t ⟨cs'⟩ off).run P w = .ok v' w ∧ VRel ρ v v' := by
  unfold apart at hv
  cases hb : aggOf P t with
  | none => simp [hb] at hv
  | some b =>
    obtain ⟨i, hi⟩ := agg_info hb
    rw [hb] at hv
    cases b with
    | true =>
      simp only at hv
      split at hv
      · cases hv
        refine ⟨.agg ⟨(cs'.drop off).take (P.cellsOf t)⟩, ?_, ?_⟩
        · simp only [part, Sem.run_bind, agg_run hb, Result.andThen_ok, if_true, size_run hi, Sem.run_pure]
          congr 2
          apply Array.ext'
          simp
        · simp only [VRel]
          exact ⟨_, by simp only [ARel]; exact (hc.drop off).take _, rfl⟩
      · cases hv
    | false =>
      simp only at hv
      obtain ⟨v', hv', hr⟩ := hc.get hv
      refine ⟨v', ?_, hr⟩
      simp only [part, Sem.run_bind, agg_run hb, Result.andThen_ok]
      simp [hv']

theorem load_sound (hi : Inv P B ρ h w) {t : TypeId} {a : Addr} {a' v : Value} (ha : VRel ρ (.pointer (some a)) a') (hv : aload P h t a = some v) :
    ∃ v', (Instr.loadAt t a').run P w = .ok v' w ∧ VRel ρ v v' := by
  simp only [VRel] at ha
  obtain ⟨b, s, hr, rfl⟩ := ha
  unfold aload at hv
  cases hb : aggOf P t with
  | none => simp [hb] at hv
  | some x =>
    obtain ⟨i, hinf⟩ := agg_info hb
    rw [hb] at hv
    cases x with
    | true =>
      simp only [Option.map_eq_some_iff] at hv
      obtain ⟨l, hl, rfl⟩ := hv
      obtain ⟨l', hrun, hrel, hs, _⟩ := loadCells_run hi hr hl
      refine ⟨.agg ⟨l'⟩, ?_, ?_⟩
      · rw [hs]
        simp only [Instr.loadAt, Instr.sureAddr, loadVar, Sem.run_bind, Sem.run_pure, Result.andThen_ok, agg_run hb, if_true, size_run hinf, hrun]
      · simp only [VRel]; exact ⟨_, by simp only [ARel]; exact hrel, rfl⟩
    | false =>
      simp only at hv
      split at hv
      · cases hv
      · rename_i hs
        have hs : a.spot = none := by cases hh : a.spot with | none => rfl | some _ => rw [hh] at hs; exact absurd rfl hs
        split at hv
        · rename_i c e fz x hg
          obtain ⟨o', ho, c', rfl, hc, hsz, _⟩ := hi.blk _ _ hg b s hr
          obtain ⟨v', hv', hrel⟩ := hc.get hv
          refine ⟨v', ?_, hrel⟩
          have hcell : w.cell? ⟨b, a.off, none⟩ = some v' := by
            rw [cell_of_block ho]
            rw [List.getElem?_take] at hv'
            split at hv'
            · simpa using hv'
            · cases hv'
          rw [hs]
          simp only [Instr.loadAt, Instr.sureAddr, loadVar, Sem.run_bind, Sem.run_pure, Result.andThen_ok, agg_run hb]
          simp [hcell]
        · cases hv

theorem store_sound (hi : Inv P B ρ h w) {t : TypeId} {a : Addr} {a' v v' : Value} {h' : AH} (ha : VRel ρ (.pointer (some a)) a') (hv : VRel ρ v v') (hs : astore P h t a v = some h') :
    ∃ w', (Instr.storeAt t a' v').run P w = .ok () w' ∧ Evo P B ρ h w ρ h' w' := by
  simp only [VRel] at ha
  obtain ⟨b, s, hr, rfl⟩ := ha
  unfold astore cellsOfV at hs
  cases ht : isTop v with
  | true => simp [ht] at hs
  | false =>
    simp only [ht, Bool.false_eq_true, if_false] at hs
    split at hs
    · rename_i hc
      obtain ⟨hlen, hsome⟩ := hc
      obtain ⟨i, hinf⟩ := Option.isSome_iff_exists.1 hsome
      have hcells := hv.cells ht
      obtain ⟨w', hrun, hevo, hspot⟩ := store_run hi hr hs hcells
      refine ⟨w', ?_, hevo⟩
      rw [hspot]
      have hl := hcells.length
      simp only [Instr.storeAt, Instr.sureAddr, storeVar, Sem.run_bind, Sem.run_pure, Result.andThen_ok, size_run hinf]
      rw [if_neg]
      · simpa using hrun
      · simp only [ne_eq, Decidable.not_not]
        simp only [Array.length_toList] at hl hlen
        omega
    · cases hs

/-! ### 'build' -/
def PRel (ρ : Rho) : List (Nat × Value) → List (Nat × Value) → Prop
  | [], l => l = []
  | (i, v) :: l, l' => ∃ v' t, VRel ρ v v' ∧ PRel ρ l t ∧ l' = (i, v') :: t
theorem fold_splice : ∀ (vs : List Value) (c : Array Value) (off i : Nat), off + i + vs.length ≤ c.size →
    ((vs.zipIdx i).foldl (fun cs (x : Value × Nat) => cs.setIfInBounds (off + x.2) x.1) c) = ⟨splice c.toList (off + i) vs⟩
  | [], c, off, i, _ => by
    apply Array.ext'
    simp [splice]
  | v :: vs, c, off, i, hsz => by
    simp only [List.length_cons] at hsz
    simp only [List.zipIdx_cons, List.foldl_cons]
    rw [fold_splice vs (c.setIfInBounds (off + i) v) off (i + 1) (by simp; omega)]
    congr 1
    simp only [splice, Array.toList_setIfInBounds, List.length_cons]
    rw [show off + (i + 1) = off + i + 1 by omega, List.take_succ_eq_append_getElem (by simp; omega)]
    simp only [List.getElem_set_self, List.append_assoc, List.nil_append, List.take_set_of_le (Nat.le_refl _), List.cons_append]
    rw [List.drop_set_of_lt (by omega), show off + i + 1 + vs.length = off + i + (vs.length + 1) by omega]
theorem fill_rel {place : Nat → Option (Nat × Nat)} : ∀ (parts parts' : List (Nat × Value)) (cells cells' r : List Value), PRel ρ parts parts' → LRel ρ cells cells' → afill place cells parts = some r →
    ∃ r', Instr.fill place ⟨cells'⟩ parts' = some ⟨r'⟩ ∧ LRel ρ r r'
  | [], parts', cells, cells', r, hp, hc, hf => by
    simp only [PRel] at hp; subst hp
    simp only [afill, Option.some.injEq] at hf; subst hf
    exact ⟨cells', rfl, hc⟩
  | (i, v) :: parts, parts', cells, cells', r, hp, hc, hf => by
    simp only [PRel] at hp
    obtain ⟨v', t, hv, ht, rfl⟩ := hp
    simp only [afill] at hf
    split at hf
    · rename_i off size vs hpl hcv
      unfold cellsOfV at hcv
      split at hcv
      · cases hcv
      · rename_i htop
        cases hcv
        split at hf
        · rename_i hsz
          have hcells := hv.cells (by simpa using htop)
          have hl := hcells.length
          have hcl := hc.length
          obtain ⟨r', hr', hrel⟩ := fill_rel parts t _ _ r ht (hc.splice off hcells) hf
          refine ⟨r', ?_, hrel⟩
          simp only [Instr.fill, hpl]
          simp only [Array.length_toList] at hl hsz
          rw [if_neg]
          · rw [← Array.foldl_toList, Array.toList_zipIdx]
            rw [fold_splice v'.cells.toList ⟨cells'⟩ off 0 (by simp; omega)]
            simpa using hr'
          · have h1 : v'.cells.size = size := by omega
            have h2 : ¬ off + v'.cells.size > (⟨cells'⟩ : Array Value).size := by show ¬ off + v'.cells.size > cells'.length; omega
            simp [h1, h2] at *
            omega
        · cases hf
    · cases hf
theorem PRel.map {α : Type} {f g : α → Value} {k : α → Nat} (hfg : ∀ x, VRel ρ (f x) (g x)) : ∀ l : List α, PRel ρ (l.map fun p => (k p, f p)) (l.map fun p => (k p, g p))
  | [] => rfl
  | x :: l => ⟨g x, _, hfg x, PRel.map hfg l, rfl⟩
theorem places_run : ∀ (fs : List Field), (∀ f ∈ fs, (P.info? f.type).isSome) →
    (fs.mapM (m := Sem) fun f => do pure (f.offset, ← sizeOf f.type)).run P w = .ok (fs.map fun f => (f.offset, P.cellsOf f.type)) w
  | [], _ => by simp
  | f :: fs, hf => by
    obtain ⟨i, hi⟩ := Option.isSome_iff_exists.1 (hf f List.mem_cons_self)
    simp only [List.mapM_cons, Sem.run_bind, size_run hi, Result.andThen_ok, Sem.run_pure, places_run fs (fun g hg => hf g (List.mem_cons_of_mem _ hg)), List.map_cons]
theorem build_sound {t : TypeId} {parts : List (Nat × Value)} {parts' : Array (Nat × Value)} {v : Value} (hp : PRel ρ parts parts'.toList) (hv : abuild P t parts = some v) :
    ∃ v', (Instr.build t parts').run P w = .ok v' w ∧ VRel ρ v v' := by
  unfold abuild at hv
  split at hv
  · rename_i z fs hz hd
    obtain ⟨i, zv, _, _, hzr, hzc, _, hzz⟩ := zero_run (w := w) hz
    split at hv
    · rename_i hall
      simp only [Option.map_eq_some_iff] at hv
      obtain ⟨l, hl, rfl⟩ := hv
      obtain ⟨r', hr', hrel⟩ := fill_rel parts parts'.toList z z l hp (hzz ρ) hl
      refine ⟨.agg ⟨r'⟩, ?_, by simp only [VRel]; exact ⟨_, by simp only [ARel]; exact hrel, rfl⟩⟩
      have hz' : zv.cells = ⟨z⟩ := by rw [← hzc]
      have hpl : (fs.mapM (m := Sem) fun f => do pure (f.offset, ← sizeOf f.type)).run P w = .ok (fs.map fun f => (f.offset, P.cellsOf f.type)) w := by
        rw [Array.mapM_eq_mapM_toList]
        simp only [Sem.run_map]
        rw [places_run fs.toList (fun f hf => by
          have := Array.all_eq_true'.1 hall f (by simpa using hf)
          exact this)]
        simp only [Result.andThen_ok, Result.ok.injEq, and_true]
        exact Array.ext' (by simp)
      simp only [Instr.build, Sem.run_bind, hzr, Result.andThen_ok, run_underlying hd, hpl, hz']
      have : (fun x : Nat => (fs.map fun f => (f.offset, P.cellsOf f.type))[x]?) = fun i => (fs[i]?).map fun f => (f.offset, P.cellsOf f.type) := by funext j; simp
      rw [this, hr']
      rfl
    · cases hv
  · rename_i z n e hz hd
    obtain ⟨i, zv, _, _, hzr, hzc, _, hzz⟩ := zero_run (w := w) hz
    split at hv
    · rename_i he
      obtain ⟨ie, hie⟩ := Option.isSome_iff_exists.1 he
      simp only [Option.map_eq_some_iff] at hv
      obtain ⟨l, hl, rfl⟩ := hv
      obtain ⟨r', hr', hrel⟩ := fill_rel parts parts'.toList z z l hp (hzz ρ) hl
      refine ⟨.agg ⟨r'⟩, ?_, by simp only [VRel]; exact ⟨_, by simp only [ARel]; exact hrel, rfl⟩⟩
      have hz' : zv.cells = ⟨z⟩ := by rw [← hzc]
      simp only [Instr.build, Sem.run_bind, hzr, Result.andThen_ok, run_underlying hd, size_run hie, hz', hr']
      rfl
    · cases hv
  · cases hv

end Go.Ab
