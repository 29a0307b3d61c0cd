/- The abstract machine: a run of it is one of the model's (rounds, code). -/
import Derived.Test.YtflmoocllahjnaaAb13
namespace Go.Ab
open Go.RowKit
variable {P : Program} {B : Nat} {ρ : Rho} {h : AH} {w : World} {K : FuncId → List Value → Option Value}

/-- A loop's record. -/
theorem loop_at (hi : Inv P B ρ h w) {l lb s : Nat} {st : LoopState} {p : Option Code} {fn : FuncId} {tmps : List Value} {ps : Array Tmp} {as bd : Code} {d : Nat} (hg : h.get l = some (.loop st p fn tmps ps as bd d)) (hr : ρ l = some (lb, s)) :
    ∃ tmps' d' s', LRel ρ tmps tmps' ∧ ρ d = some (d', s') ∧ w.heap[lb]? = some (.loop { state := st, pending := p, fn := fn, tmps := ⟨tmps'⟩, params := ps, assign := as, body := bd, defers := d' }) := by
  obtain ⟨o', ho, tmps', d', s', h1, h2, h3⟩ := hi.blk _ _ hg lb s hr
  exact ⟨tmps', d', s', h1, h2, by rw [ho, h3]⟩
theorem setLoop_sound (hi : Inv P B ρ h w) {l lb s : Nat} {st : LoopState} {pd : Option (Option Code)} {h' : AH} (hs : setLoop h l st pd = some h') (hr : ρ l = some (lb, s)) :
    ∃ r : Loop, w.heap[lb]? = some (.loop r) ∧ (∃ st0 p0 fn tmps ps as bd d, h.get l = some (.loop st0 p0 fn tmps ps as bd d) ∧ r.state = st0 ∧ r.pending = p0) ∧
      Evo P B ρ h w ρ h' { w with heap := w.heap.setIfInBounds lb (.loop { r with state := st, pending := pd.getD r.pending }) } := by
  unfold setLoop at hs
  split at hs
  · rename_i st0 p fn tmps ps as bd d hg
    split at hs
    · rename_i hb
      cases hs
      obtain ⟨tmps', d', s', h1, h2, h3⟩ := loop_at hi hg hr
      exact ⟨_, h3, ⟨_, _, _, _, _, _, _, _, hg, rfl, rfl⟩, evo_set hi hb hg hr (o := .loop st (pd.getD p) fn tmps ps as bd d) ⟨tmps', d', s', h1, h2, rfl⟩ rfl rfl rfl rfl⟩
    · cases hs
  · cases hs
theorem loop_not_cells {r : Loop} : ∀ c e f, Obj.loop r ≠ .cells c e f := fun _ _ _ hh => by cases hh
theorem getLoop_run {lb : Nat} {r : Loop} (h : w.heap[lb]? = some (.loop r)) : (Instr.getLoop lb).run P w = .ok r w := by
  simp only [Instr.getLoop, Sem.run_bind, getObj_run h loop_not_cells, Result.andThen_ok, Sem.run_pure]

theorem fold_rel : ∀ (l : List (Tmp × Value)) (l' : List (Tmp × Value)) (t : List Value) (t' : Array Value), l.map (·.1) = l'.map (·.1) → LRel ρ (l.map (·.2)) (l'.map (·.2)) → LRel ρ t t'.toList →
    LRel ρ (l.foldl (fun t (p, v) => t.set p v) t) (l'.foldl (fun t (p, v) => t.setIfInBounds p v) t').toList
  | [], [], t, t', _, _, h => h
  | (p, v) :: l, (p', v') :: l', t, t', h1, h2, h => by
    simp only [List.map_cons, List.cons.injEq] at h1
    obtain ⟨rfl, h1⟩ := h1
    simp only [List.map_cons] at h2
    have h3 := LRel.cons_iff.1 h2
    simp only [List.foldl_cons]
    exact fold_rel l l' _ _ h1 h3.2 (by simpa using h.set p h3.1)
  | [], _ :: _, _, _, h1, _, _ => by simp at h1
  | _ :: _, [], _, _, h1, _, _ => by simp at h1

theorem round_sound (C : Ctx P B K) {R : Run} (hR : RunOk C R) {l : Nat} {args : List Value} {h : AH} {out : Out} {h' : AH}
    (hr : runRound R l args h = some (out, h')) : SimRound C l args h out.v h' := by
  intro ρ w args' lb s hi hg ha hl
  unfold runRound at hr
  split at hr
  · rename_i st p fn tmps ps assign body d hget
    split at hr
    · rename_i hlen
      obtain ⟨tmps', d', s', ht, hd, hw⟩ := loop_at hi hget hl
      have hal := ha.length
      refine ⟨fn, (ps.toList.zip args').foldl (fun t (p, v) => t.setIfInBounds p v) ⟨tmps'⟩, assign, body, ?_, ?_⟩
      · have hz : (ps.zip ⟨args'⟩).foldl (fun (t : Array Value) (x : Tmp × Value) => t.setIfInBounds x.1 x.2) ⟨tmps'⟩ = (ps.toList.zip args').foldl (fun t (p, v) => t.setIfInBounds p v) ⟨tmps'⟩ := by
          rw [← Array.foldl_toList, Array.toList_zip]
        have hsz : ¬ (⟨args'⟩ : Array Value).size ≠ ps.size := by simp; omega
        simp only [Instr.yield, Sem.run_bind, getLoop_run hw, Result.andThen_ok]
        rw [if_neg hsz]
        simp only [Sem.run_pure, Result.ok.injEq, Next.round.injEq, and_true, true_and]
        exact hz
      · intro c cs
        split at hr
        · rename_i o h1 hrun
          have hsim := hR _ _ _ _ hrun
          split at hr
          · have hzl : ∀ (xs : List Value), xs.length = ps.toList.length → (ps.toList.zip xs).map (·.1) = ps.toList ∧ (ps.toList.zip xs).map (·.2) = xs := fun xs hx => ⟨List.map_fst_zip (by omega), List.map_snd_zip (by omega)⟩
            have hz1 := hzl args (by simpa using hlen)
            have hz2 := hzl args' (by simp; omega)
            obtain ⟨ρ1, w1, a1, k1, e1, r1, d1, s1, l1⟩ := hsim ρ w { (default : Frame) with fn := fn, kind := .normal, roundOf := some lb } { tmps := (ps.toList.zip args').foldl (fun t (p, v) => t.setIfInBounds p v) ⟨tmps'⟩, defers := [] } (c :: cs) hi hg rfl ⟨lb, s, hl, rfl⟩
              (fold_rel _ _ _ _ (by rw [hz1.1, hz2.1]) (by rw [hz1.2, hz2.2]; exact ha) ht) rfl
            have hl1 := e1.ext _ _ hl
            have fin : ∀ (jump : Option Code) (h2 : AH), setLoop h1 l (if jump.isNone then .ready else .done) (some jump) = some h2 → ∃ w2, (Instr.endRound lb jump).run P w1 = .ok (.bool jump.isNone) w2 ∧ Evo P B ρ1 h1 w1 ρ1 h2 w2 := by
              intro jump h2 hsl
              obtain ⟨r, hw1, _, hev⟩ := setLoop_sound e1.inv hsl hl1
              refine ⟨_, ?_, hev⟩
              simp only [Instr.endRound, Sem.run_bind, getLoop_run hw1, Result.andThen_ok, setObj_run hw1 loop_not_cells, Sem.run_pure, Option.getD_some]
            cases hlv : o.leave with
            | fell =>
              rw [hlv] at hr l1
              simp only [LeaveK] at l1; subst l1
              simp only [Option.map_eq_some_iff] at hr
              obtain ⟨h2, hsl, hr⟩ := hr
              cases hr
              obtain ⟨w2, hend, hev⟩ := fin none _ hsl
              exact ⟨ρ1, .bool true, w2, by simp only [VRel], e1.trans hev, s1.trans (.one (stepR_round_end rfl rfl hend))⟩
            | ret =>
              rw [hlv] at hr l1
              obtain ⟨k2, rfl⟩ := l1
              simp only [Option.map_eq_some_iff] at hr
              obtain ⟨h2, hsl, hr⟩ := hr
              cases hr
              obtain ⟨w2, hend, hev⟩ := fin (some .ret) _ hsl
              exact ⟨ρ1, .bool false, w2, by simp only [VRel], e1.trans hev, s1.trans (.one (stepR_round_ret rfl rfl hend))⟩
            | exit id =>
              rw [hlv] at hr l1
              obtain ⟨k2, rfl, hx⟩ := l1
              simp only [Option.map_eq_some_iff] at hr
              obtain ⟨h2, hsl, hr⟩ := hr
              cases hr
              obtain ⟨w2, hend, hev⟩ := fin (some (.exit id)) _ hsl
              exact ⟨ρ1, .bool false, w2, by simp only [VRel], e1.trans hev, s1.trans (.one (stepR_round_exit rfl rfl hx hend))⟩
          · cases hr
        · cases hr
    · cases hr
  · cases hr

/-- What a region that draws its order comes to. -/
def DrawOk (C : Ctx P B K) (R : Run) : Prop := ∀ (ops : Array Oper) (env : List Value) (h : AH) (env' : List Value) (h' : AH), drawRun P R ops env h = some (env', h') →
  ∀ (ρ : Rho) (w : World) (b : Frame) (a : Act) (cs : List Frame) (k : List Item) (t : Nat), Inv P B ρ h w → C.G w → LRel ρ env a.tmps.toList →
    ∃ ρ' w' a', Evo P B ρ h w ρ' h' w' ∧ LRel ρ' env' a'.tmps.toList ∧ a'.defers = a.defers ∧
      Steps P (lone (b.atR a (.inRegion ops (Region.schedule (P.follows .mixedOrders) ops t) :: k)) cs w) (lone (b.atR a' (.inRegion ops [] :: k)) cs w')

theorem opsAt_range (all : Array Oper) : ∀ (rest : List Oper) (i : Nat), (∀ j, all[i + j]? = rest[j]?) → OpsAt all (List.range' i rest.length) rest
  | [], i, _ => trivial
  | o :: rest, i, hall => by
    refine ⟨by simpa using hall 0, opsAt_range all rest (i + 1) fun j => ?_⟩
    have := hall (j + 1)
    simpa [Nat.add_assoc, Nat.add_comm 1 j] using this

end Go.Ab
