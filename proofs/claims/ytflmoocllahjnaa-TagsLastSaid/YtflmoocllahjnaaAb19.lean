/- The abstract machine: regions that draw their order (the steps, and their end). -/
import Derived.Test.YtflmoocllahjnaaAb18
namespace Go.Ab
open Go.RowKit
variable {P : Program} {B : Nat} {K : FuncId → List Value → Option Value}
variable {R : Run} {all : List Oper} {r0 : Nat} {E : Nat → List Value} {H : Nat → AH} {V : Nat → Value} {ρ0 ρ : Rho} {h : AH} {w0 w : World} {D : List Nat} {s : Nat} {tmps : List Value}

theorem Grows.refl (g : AH) : Grows g g := fun _ _ h => h
theorem Grows.trans {a b c : AH} (h : Grows a b) (k : Grows b c) : Grows a c := fun i o x => k i o (h i o x)

/-- The text's heap goes on by an operation that is no store and no call. -/
theorem St.reveal (d : Dr P R all r0 E H V) (hr0 : h.base ≤ r0) (hB : B ≤ w0.heap.size) (st : St P B all r0 E H V ρ0 h w0 D s ρ w tmps) {o : Oper} (ho : all[s]? = some o) (hh : isHeavy o.op = false) :
    St P B all r0 E H V ρ0 h w0 D (s + 1) ρ w tmps := by
  have hs : s < all.length := (List.getElem?_eq_some_iff.1 ho).1
  have hs1 : ∀ (j : Nat) p, j < s + 1 → all[j]? = some p → isHeavy p.op = true → j ∈ D := fun j p hj hp hph => by
    by_cases e : j = s
    · subst e; rw [ho] at hp; cases hp; rw [hh] at hph; cases hph
    · exact st.s1 j p (by omega) hp hph
  have same : H (s + 1) = H s → ¬ (kindOf o.op = .alloc ∧ aWanted ⟨all⟩ (E s) o = some true) → St P B all r0 E H V ρ0 h w0 D (s + 1) ρ w tmps := fun he hnA =>
    { evo := by rw [he]; exact st.evo, dlt := st.dlt, closed := st.closed, s1 := hs1, s3 := fun j p hp hph hj => Nat.lt_succ_of_lt (st.s3 j p hp hph hj), sle := hs, env := st.env, nx := by rw [he]; exact st.nx
      pend := fun i p b f hi => st.pend i p b f (by omega), resv := st.resv, lone := fun i n t hi => by rw [he]; exact st.lone i n t (by omega), injR := st.injR, unm := st.unm, unA := st.unA
      rev := fun i p b f hi hD hp hw ha hk => by
        rw [he]
        by_cases e : i = s
        · subst e; rw [ho] at hp; cases hp; exact absurd ⟨hk, hw⟩ hnA
        · exact st.rev i p b f (by omega) hD hp hw ha hk
      non := fun j hj => by rw [he]; exact st.non j (by omega)
      gr := fun m hm hno => by
        by_cases e : m = s + 1
        · subst e; exact Grows.refl _
        · rw [he]; exact st.gr m (by omega) fun j p h1 h2 => hno j p h1 (by omega) }
  rcases d.cases ho with ⟨hw, _, he⟩ | ⟨hw, hl, _, he⟩ | ⟨hw, hk, b, f, ha, _, he⟩ | ⟨_, hk, _⟩
  · exact same he fun hx => by rw [hw] at hx; cases hx.2
  · exact same he fun hx => (not_both hl).2 hx.1
  · have hbase : (H s).base ≤ r0 + s := by rw [st.evo.base]; omega
    have hget : ∀ j, (H (s + 1)).get j = if j = r0 + s then some b else (H s).get j := fun j => by rw [he]; exact AH.get_set hbase
    have hcase : ∀ j, ((H (s + 1)).get j).isSome → j = r0 + s ∨ ((H s).get j).isSome := fun j hj => by
      rw [hget] at hj
      by_cases ej : j = r0 + s
      · exact .inl ej
      · rw [if_neg ej] at hj; exact .inr hj
    refine { evo := ?_, dlt := st.dlt, closed := st.closed, s1 := hs1, s3 := fun j p hp hph hj => Nat.lt_succ_of_lt (st.s3 j p hp hph hj), sle := hs, env := st.env, nx := by rw [he]; simp; exact st.nx,
             pend := fun i p b f hi => st.pend i p b f (by omega), resv := st.resv, lone := ?_, injR := st.injR, unm := st.unm, unA := st.unA, rev := ?_, non := ?_, gr := ?_ }
    · rw [he]
      refine evoN_reveal st.evo (by omega) (by have := st.nx; omega) (by omega) hB ?_ ?_
      · intro n t hr
        by_cases hD : s ∈ D
        · obtain ⟨n', o', h1, h2, h3⟩ := st.pend s o b f (Nat.le_refl _) hD ho hw ha hk
          rw [hr] at h1; cases h1
          exact ⟨o', h2, h3⟩
        · rw [st.unm s hs hD] at hr; cases hr
      · intro n t hr
        exact ⟨(st.resv s n t hs hr).1, fun j s' hj gj rj => absurd rj (st.lone s n t (Nat.le_refl _) hs hr j s' hj gj)⟩
    · intro i n t hi hil hr j s' hj gj
      rcases hcase j gj with ej | gj'
      · subst ej
        intro rj
        have := st.injR i s n t s' hil hs hr rj
        omega
      · exact st.lone i n t (by omega) hil hr j s' hj gj'
    · intro i p b' f' hi hD hp hw' ha' hk'
      rw [hget]
      by_cases e : i = s
      · subst e
        rw [ho] at hp; cases hp
        rw [ha] at ha'; cases ha'
        rw [if_pos rfl]
      · rw [if_neg (by omega)]
        exact st.rev i p b' f' (by omega) hD hp hw' ha' hk'
    · intro j hj hjl
      rw [hget, if_neg (by omega)]
      exact st.non j (by omega) hjl
    · intro m hm hno
      by_cases e : m = s + 1
      · subst e; exact Grows.refl _
      · refine (st.gr m (by omega) fun j p h1 h2 => hno j p h1 (by omega)).trans ?_
        intro j x hx
        rw [hget, if_neg]
        · exact hx
        · intro ej; subst ej
          rw [st.non s (Nat.le_refl _) hs] at hx; cases hx
  · rw [hk] at hh; cases hh

theorem St.advance (d : Dr P R all r0 E H V) (hr0 : h.base ≤ r0) (hB : B ≤ w0.heap.size) : ∀ (n s : Nat), all.length - s = n → St P B all r0 E H V ρ0 h w0 D s ρ w tmps → ∃ s', St P B all r0 E H V ρ0 h w0 D s' ρ w tmps ∧ First all D s'
  | 0, s, hn, st => ⟨s, st, .inl (by have := st.sle; omega)⟩
  | n + 1, s, hn, st => by
    have ho : all[s]? = some all[s] := List.getElem?_eq_getElem (by omega)
    cases hh : isHeavy all[s].op with
    | true => exact ⟨s, st, .inr ⟨_, ho, hh, fun hD => by have := st.s3 s _ ho hh hD; omega⟩⟩
    | false => exact St.advance d hr0 hB n (s + 1) (by omega) (st.reveal d hr0 hB ho hh)

theorem snoc_closed {i : Nat} {o : Oper} (hc : ∀ i ∈ D, ∀ o, all[i]? = some o → ∀ j ∈ directs o, j ∈ D) (ho : all[i]? = some o) (hdir : ∀ j ∈ directs o, j ∈ D) :
    ∀ k ∈ D ++ [i], ∀ p, all[k]? = some p → ∀ j ∈ directs p, j ∈ D ++ [i] := by
  intro k hk p hp j hj
  rcases List.mem_append.1 hk with h1 | h1
  · exact List.mem_append_left _ (hc k h1 p hp j hj)
  · have : k = i := by simpa using h1
    subst this
    rw [ho] at hp; cases hp
    exact List.mem_append_left _ (hdir j hj)
theorem snoc_env {i : Nat} {o : Oper} (ho : all[i]? = some o) {v' : Value} (he : LRel ρ (EnvD all V (E 0) D) tmps) (hv : VRel ρ (V i) v') : LRel ρ (EnvD all V (E 0) (D ++ [i])) (aput tmps o.dst v') := by
  rw [EnvD_snoc, ho]
  simp only [Option.bind_some]
  cases o.dst with
  | none => exact he
  | some dd => exact he.set dd hv

/-- an operation that makes no block: its value -/
theorem St.value (st : St P B all r0 E H V ρ0 h w0 D s ρ w tmps) {i : Nat} {o : Oper} (ho : all[i]? = some o) (hdir : ∀ j ∈ directs o, j ∈ D) (hh : isHeavy o.op = false) (hnA : ¬ (kindOf o.op = .alloc ∧ aWanted ⟨all⟩ (E i) o = some true))
    {v' : Value} (hv : VRel ρ (V i) v') : St P B all r0 E H V ρ0 h w0 (D ++ [i]) s ρ w (aput tmps o.dst v') where
  evo := st.evo
  dlt := fun k hk => by
    rcases List.mem_append.1 hk with h1 | h1
    · exact st.dlt k h1
    · have : k = i := by simpa using h1
      subst this; exact (List.getElem?_eq_some_iff.1 ho).1
  closed := snoc_closed st.closed ho hdir
  s1 := fun j p hj hp hph => List.mem_append_left _ (st.s1 j p hj hp hph)
  s3 := fun j p hp hph hj => by
    rcases List.mem_append.1 hj with h1 | h1
    · exact st.s3 j p hp hph h1
    · have : j = i := by simpa using h1
      subst this; rw [ho] at hp; cases hp; rw [hh] at hph; cases hph
  sle := st.sle
  env := snoc_env ho st.env hv
  nx := st.nx
  pend := fun k p b f hk hkD hp hw ha hkk => by
    rcases List.mem_append.1 hkD with h1 | h1
    · exact st.pend k p b f hk h1 hp hw ha hkk
    · have : k = i := by simpa using h1
      subst this; rw [ho] at hp; cases hp; exact absurd ⟨hkk, hw⟩ hnA
  resv := st.resv
  lone := st.lone
  injR := st.injR
  unm := fun k hk hD => st.unm k hk fun hh' => hD (List.mem_append_left _ hh')
  unA := st.unA
  rev := fun k p b f hk hD => st.rev k p b f hk fun hh' => hD (List.mem_append_left _ hh')
  non := st.non
  gr := st.gr

/-- an operation that makes a block -/
theorem St.block (st : St P B all r0 E H V ρ0 h w0 D s ρ w tmps) (hr0 : h.base ≤ r0) (hB : B ≤ w0.heap.size) {i : Nat} {o : Oper} (ho : all[i]? = some o) (hD : i ∉ D) (hdir : ∀ j ∈ directs o, j ∈ D) (hk : kindOf o.op = .alloc) (hw : aWanted ⟨all⟩ (E i) o = some true)
    {b : Blk} {f : Nat → Value} (ha : aalloc P (aeval P (E i)) o.op = some (b, f)) {o' : Obj} (hb : BRel P ρ 0 b o') {v' : Value} (hv : VRel (upd ρ (r0 + i) (w.heap.size, 0)) (V i) v') :
    St P B all r0 E H V ρ0 h w0 (D ++ [i]) s (upd ρ (r0 + i) (w.heap.size, 0)) (w.alloc o') (aput tmps o.dst v') := by
  have hil : i < all.length := (List.getElem?_eq_some_iff.1 ho).1
  have hn := st.unm i hil hD
  have hext : Ext ρ (upd ρ (r0 + i) (w.heap.size, 0)) := Ext.upd hn
  have hother : ∀ k, k ≠ i → upd ρ (r0 + i) (w.heap.size, 0) (r0 + k) = ρ (r0 + k) := fun k hk => upd_other (by omega)
  have hlive : ∀ j n t, ((H s).get j).isSome → ρ j = some (n, t) → n < w.heap.size := fun j n t hj hr => by
    obtain ⟨x, hx⟩ := Option.isSome_iff_exists.1 hj
    obtain ⟨o2, h2, _⟩ := st.evo.inv.blk j x hx n t hr
    exact (Array.getElem?_eq_some_iff.1 h2).1
  have hheavy : isHeavy o.op = false := by simp [isHeavy, hk]
  refine { evo := ?_, dlt := ?_, closed := snoc_closed st.closed ho hdir, s1 := fun j p hj hp hph => List.mem_append_left _ (st.s1 j p hj hp hph), s3 := ?_, sle := st.sle, env := snoc_env ho (LRel.mono hext _ _ st.env) hv, nx := st.nx,
           pend := ?_, resv := ?_, lone := ?_, injR := ?_, unm := ?_, unA := ?_, rev := ?_, non := st.non, gr := st.gr }
  · refine evoN_map st.evo (by omega) (by have := st.nx; omega) (by omega) hB hn rfl rfl rfl rfl ?_
    intro x hx
    rcases Nat.lt_or_ge i s with h1 | h1
    · have := st.rev i o b f h1 hD ho hw ha hk
      rw [this] at hx; cases hx
      exact hb.mono hext
    · rw [st.non i h1 hil] at hx; cases hx
  · intro k hk'
    rcases List.mem_append.1 hk' with h1 | h1
    · exact st.dlt k h1
    · have : k = i := by simpa using h1
      subst this; exact hil
  · intro j p hp hph hj
    rcases List.mem_append.1 hj with h1 | h1
    · exact st.s3 j p hp hph h1
    · have : j = i := by simpa using h1
      subst this; rw [ho] at hp; cases hp; rw [hheavy] at hph; cases hph
  · intro k p b' f' hks hkD hp hw' ha' hk'
    by_cases e : k = i
    · subst e
      rw [ho] at hp; cases hp
      rw [ha] at ha'; cases ha'
      exact ⟨w.heap.size, o', upd_same, by show (w.heap.push o')[w.heap.size]? = some o'; simp, hb.mono hext⟩
    · have hkD' : k ∈ D := by
        rcases List.mem_append.1 hkD with h1 | h1
        · exact h1
        · exact absurd (by simpa using h1) e
      obtain ⟨n, o2, h1, h2, h3⟩ := st.pend k p b' f' hks hkD' hp hw' ha' hk'
      refine ⟨n, o2, by rw [hother k e]; exact h1, ?_, h3.mono hext⟩
      have := (Array.getElem?_eq_some_iff.1 h2).1
      simp only [World.alloc, Array.getElem?_push]
      rw [if_neg (by omega)]; exact h2
  · intro k n t hkl hr
    by_cases e : k = i
    · subst e; rw [upd_same] at hr; cases hr
      exact ⟨st.evo.size, by simp⟩
    · rw [hother k e] at hr
      have := st.resv k n t hkl hr
      exact ⟨this.1, by simp; omega⟩
  · intro k n t hks hkl hr j s' hj gj
    by_cases e : k = i
    · subst e; rw [upd_same] at hr; cases hr
      by_cases ej : j = r0 + k
      · subst ej; rw [st.non k hks hkl] at gj; cases gj
      · rw [upd_other ej]
        intro rj
        have := hlive j _ _ gj rj
        omega
    · rw [hother k e] at hr
      by_cases ej : j = r0 + i
      · subst ej; rw [upd_same]
        intro hx; cases hx
        have := (st.resv k w.heap.size t hkl hr).2
        omega
      · rw [upd_other ej]; exact st.lone k n t hks hkl hr j s' hj gj
  · intro k k' n t t' hkl hkl' hr hr'
    by_cases e : k = i
    · by_cases e' : k' = i
      · rw [e, e']
      · subst e; rw [upd_same] at hr; cases hr
        rw [hother k' e'] at hr'
        have := (st.resv k' w.heap.size t' hkl' hr').2
        omega
    · rw [hother k e] at hr
      by_cases e' : k' = i
      · subst e'; rw [upd_same] at hr'; cases hr'
        have := (st.resv k w.heap.size t hkl hr).2
        omega
      · rw [hother k' e'] at hr'
        exact st.injR k k' n t t' hkl hkl' hr hr'
  · intro k hkl hkD
    have e : k ≠ i := fun e => hkD (by simp [e])
    rw [hother k e]
    exact st.unm k hkl fun hh' => hkD (List.mem_append_left _ hh')
  · intro k p hp hnA
    have e : k ≠ i := fun e => by subst e; rw [ho] at hp; cases hp; exact hnA ⟨hk, hw⟩
    rw [hother k e]
    exact st.unA k p hp hnA
  · intro k p b' f' hks hkD
    exact st.rev k p b' f' hks fun hh' => hkD (List.mem_append_left _ hh')

/-- a store, or a call -/
theorem St.loud (st : St P B all r0 E H V ρ0 h w0 D s ρ w tmps) {o : Oper} (ho : all[s]? = some o) (hsD : s ∉ D) (hh : isHeavy o.op = true) (hdir : ∀ j ∈ directs o, j ∈ D) {ρ1 : Rho} {w1 : World} (ev : Evo P B ρ (H s) w ρ1 (H (s + 1)) w1) {v' : Value} (hv : VRel ρ1 (V s) v') :
    St P B all r0 E H V ρ0 h w0 (D ++ [s]) (s + 1) ρ1 w1 (aput tmps o.dst v') := by
  have hsl : s < all.length := (List.getElem?_eq_some_iff.1 ho).1
  have hback : ∀ k x, k < all.length → ρ1 (r0 + k) = some x → ρ (r0 + k) = some x := fun k x hk hr => by
    cases hx : ρ (r0 + k) with
    | none =>
      have := ev.un (r0 + k) (by have := st.nx; omega) hx
      rw [hr] at this; cases this
    | some y => have := ev.ext _ _ hx; rw [hr] at this; exact this.symm
  refine { evo := st.evo.then ev (by have := st.nx; omega), dlt := ?_, closed := snoc_closed st.closed ho hdir, s1 := ?_, s3 := ?_, sle := hsl, env := snoc_env ho (LRel.mono ev.ext _ _ st.env) hv, nx := Nat.le_trans st.nx ev.next,
           pend := ?_, resv := ?_, lone := ?_, injR := ?_, unm := ?_, unA := ?_, rev := ?_, non := ?_, gr := ?_ }
  · intro k hk
    rcases List.mem_append.1 hk with h1 | h1
    · exact st.dlt k h1
    · have : k = s := by simpa using h1
      subst this; exact hsl
  · intro j p hj hp hph
    by_cases e : j = s
    · simp [e]
    · exact List.mem_append_left _ (st.s1 j p (by omega) hp hph)
  · intro j p hp hph hj
    rcases List.mem_append.1 hj with h1 | h1
    · exact Nat.lt_succ_of_lt (st.s3 j p hp hph h1)
    · have : j = s := by simpa using h1
      omega
  · intro k p b f hk hkD hp hw ha hkk
    have hkD' : k ∈ D := by
      rcases List.mem_append.1 hkD with h1 | h1
      · exact h1
      · have : k = s := by simpa using h1
        omega
    obtain ⟨n, o', h1, h2, h3⟩ := st.pend k p b f (by omega) hkD' hp hw ha hkk
    refine ⟨n, o', ev.ext _ _ h1, ?_, h3.mono ev.ext⟩
    rw [ev.frame n (Array.getElem?_eq_some_iff.1 h2).1 fun j t hj gj => st.lone k n 0 (by omega) (st.dlt k hkD') h1 j t (by rw [← st.evo.base]; exact hj) gj]
    exact h2
  · intro k n t hk hr
    have := st.resv k n t hk (hback k _ hk hr)
    exact ⟨this.1, Nat.lt_of_lt_of_le this.2 ev.size⟩
  · intro k n t hks hk hr j t' hj gj rj
    have hr' := hback k _ hk hr
    have hn := (st.resv k n t hk hr').2
    obtain ⟨j', t2, h1, h2, h3⟩ := ev.range j n t' (by rw [st.evo.base]; exact hj) gj rj hn
    exact st.lone k n t (by omega) hk hr' j' t2 (by rw [← st.evo.base]; exact h1) h2 h3
  · intro k k' n t t' hk hk' hr hr'
    exact st.injR k k' n t t' hk hk' (hback k _ hk hr) (hback k' _ hk' hr')
  · intro k hk hkD
    exact ev.un _ (by have := st.nx; omega) (st.unm k hk fun hh' => hkD (List.mem_append_left _ hh'))
  · intro k p hp hnA
    exact ev.un _ (by have := st.nx; have := (List.getElem?_eq_some_iff.1 hp).1; omega) (st.unA k p hp hnA)
  · intro k p b f hk hkD hp hw ha hkk
    have hks : k ≠ s := fun e => hkD (by simp [e])
    have hkD' : k ∉ D := fun hh' => hkD (List.mem_append_left _ hh')
    have hkl := (List.getElem?_eq_some_iff.1 hp).1
    rw [ev.keepU (r0 + k) (by have := st.nx; omega) (st.unm k hkl hkD')]
    exact st.rev k p b f (by omega) hkD' hp hw ha hkk
  · intro j hj hjl
    exact ev.stay _ (by have := st.nx; omega) (st.non j (by omega) hjl)
  · intro m hm hno
    by_cases e : m = s + 1
    · subst e; exact Grows.refl _
    · have := hno s o (by omega) (by omega) ho
      rw [hh] at this; cases this

theorem put_list {a : Act} {d : Option Tmp} {v : Value} : (a.put d v).tmps.toList = aput a.tmps.toList d v := by cases d <;> simp [Act.put, aput]

/-- 'len', 'min' and 'max': nothing is made or written. -/
theorem lit_sound {args args' : List Value} {b : Builtin} {argTypes : Array TypeId} {ty : TypeId} {consts : Array Bool} {v : Value} {h h' : AH} {w : World} {ρ : Rho} (hb : litBuiltin b = true) (ha : LRel ρ args args') (hv : abuiltin P h b argTypes args = some (v, h')) :
    ∃ v', VRel ρ v v' ∧ (builtin b argTypes ty consts ⟨args'⟩).run P w = .ok (.value v') w := by
  unfold abuiltin at hv
  split at hv
  · -- len
    rename_i x
    simp only [LRel] at ha
    obtain ⟨x', t, hx, rfl, rfl⟩ := ha
    have key : ∀ (t : TypeId) (n : Nat), argTypes[0]? = some t → (Builtin.len_ argTypes ty #[x']).run P w = .ok (goInt n) w → ∃ v', VRel ρ (.int .i64 n) v' ∧ (builtin .len argTypes ty consts ⟨[x']⟩).run P w = .ok (.value v') w :=
      fun t n _ hr => ⟨.int .i64 n, by simp only [VRel], by
        show (do pure (Next.value (← Builtin.len_ argTypes ty #[x'])) : Sem Next).run P w = _
        simp only [Sem.run_bind, hr, Result.andThen_ok]; rfl⟩
    cases h0 : argTypes[0]? with
    | none => rw [h0] at hv; simp at hv
    | some t =>
      rw [h0] at hv
      simp only [Option.bind_some] at hv
      split at hv
      · rename_i s hd
        simp only [Option.some.injEq, Prod.mk.injEq] at hv
        obtain ⟨rfl, rfl⟩ := hv
        simp only [VRel] at hx; subst hx
        exact key t _ h0 (by simp [Builtin.len_, h0, run_underlying hd])
      · rename_i n e hd
        simp only [Option.some.injEq, Prod.mk.injEq] at hv
        obtain ⟨rfl, rfl⟩ := hv
        exact key t _ h0 (by simp [Builtin.len_, h0, run_underlying hd])
      · rename_i e hd
        split at hv
        · rename_i n e2 hd2
          simp only [Option.some.injEq, Prod.mk.injEq] at hv
          obtain ⟨rfl, rfl⟩ := hv
          exact key t _ h0 (by simp [Builtin.len_, h0, run_underlying hd, run_underlying hd2])
        · cases hv
      · rename_i e a n c hd
        simp only [Option.some.injEq, Prod.mk.injEq] at hv
        obtain ⟨rfl, rfl⟩ := hv
        cases a with
        | none => simp only [VRel] at hx; subst hx; exact key t _ h0 (by simp [Builtin.len_, h0, run_underlying hd])
        | some a =>
          obtain ⟨_, _, sp⟩ := a
          cases sp with
          | none => simp only [VRel] at hx; obtain ⟨_, _, _, _, _, _, rfl⟩ := hx; exact key t _ h0 (by simp [Builtin.len_, h0, run_underlying hd])
          | some _ => simp only [VRel] at hx; obtain ⟨rfl, _, _, _, rfl⟩ := hx; exact key t _ h0 (by simp [Builtin.len_, h0, run_underlying hd])
      · cases hv
  · simp [litBuiltin] at hb
  · simp [litBuiltin] at hb
  · simp [litBuiltin] at hb
  · -- min
    rename_i k x k' y
    simp only [LRel] at ha
    obtain ⟨x', _, hx, ⟨y', _, hy, rfl, rfl⟩, rfl⟩ := ha
    simp only [VRel] at hx hy; subst hx; subst hy
    simp only [Option.some.injEq, Prod.mk.injEq] at hv
    obtain ⟨rfl, rfl⟩ := hv
    exact ⟨_, by simp only [VRel]; rfl, by simp [builtin, Builtin.min_, Builtin.min2]⟩
  · -- max
    rename_i k x k' y
    simp only [LRel] at ha
    obtain ⟨x', _, hx, ⟨y', _, hy, rfl, rfl⟩, rfl⟩ := ha
    simp only [VRel] at hx hy; subst hx; subst hy
    simp only [Option.some.injEq, Prod.mk.injEq] at hv
    obtain ⟨rfl, rfl⟩ := hv
    exact ⟨_, by simp only [VRel]; rfl, by simp [builtin, Builtin.max_, Builtin.max2]⟩
  · cases hv

/-- WHATEVER THE ORDER. -/
theorem draw_steps (C : Ctx P B K) (hR : RunOk C R) {ops : Array Oper} (hall : ops.toList = all) (d : Dr P R all r0 E H V) (hr0 : h.base ≤ r0) (hB : B ≤ w0.heap.size) (hi0 : Inv P B ρ0 h w0) (hg0 : C.G w0) {b : Frame} {cs : List Frame} {k : List Item} :
    ∀ (l : List Nat) (D : List Nat) (s : Nat) (ρ : Rho) (w : World) (a : Act), OrdFrom all D l → First all D s → St P B all r0 E H V ρ0 h w0 D s ρ w a.tmps.toList →
      ∃ D' ρ' w' a', St P B all r0 E H V ρ0 h w0 D' all.length ρ' w' a'.tmps.toList ∧ (∀ i, i < all.length → i ∈ D') ∧ a'.defers = a.defers ∧ Steps P (lone (b.atR a (.inRegion ops l :: k)) cs w) (lone (b.atR a' (.inRegion ops [] :: k)) cs w')
  | [], D, s, ρ, w, a, hord, hf, st => by
    have : s = all.length := by
      rcases hf with h1 | ⟨o, ho, _, hD⟩
      · exact h1
      · exact absurd (hord s (List.getElem?_eq_some_iff.1 ho).1) hD
    subst this
    exact ⟨D, ρ, w, a, st, hord, rfl, Steps.refl _ _⟩
  | i :: l, D, s, ρ, w, a, hord, hf, st => by
    obtain ⟨hil, hD, hdirs, hord'⟩ := hord
    have ho : all[i]? = some all[i] := List.getElem?_eq_getElem hil
    have ho' : ops[i]? = some all[i] := by rw [← Array.getElem?_toList, hall]; exact ho
    have hopsA : ops = ⟨all⟩ := by rw [← hall]
    have hdir := hdirs _ ho
    generalize all[i] = o at ho ho' hdir
    have hwsame := st.wanted d ho hD hdir
    have hevsame := st.ev d ho hD hdir
    have hG : C.G w := by
      have hbelow : Below B w0 w := ⟨st.evo.os, st.evo.tape, st.evo.out, st.evo.size, fun x hx => st.evo.frame x (Nat.lt_of_lt_of_le hx hB) fun j t hj gj hr => absurd (hi0.low j x t hj gj hr) (Nat.not_le.2 hx)⟩
      exact C.keep _ _ hbelow hg0
    have hev := aeval_rel st.evo.inv st.env
    -- how the rest goes on
    have go : ∀ (s1 : Nat) (ρ1 : Rho) (w1 : World) (a1 : Act), St P B all r0 E H V ρ0 h w0 (D ++ [i]) s1 ρ1 w1 a1.tmps.toList → a1.defers = a.defers → Steps P (lone (b.atR a (.inRegion ops (i :: l) :: k)) cs w) (lone (b.atR a1 (.inRegion ops l :: k)) cs w1) →
        ∃ D' ρ' w' a', St P B all r0 E H V ρ0 h w0 D' all.length ρ' w' a'.tmps.toList ∧ (∀ i, i < all.length → i ∈ D') ∧ a'.defers = a.defers ∧ Steps P (lone (b.atR a (.inRegion ops (i :: l) :: k)) cs w) (lone (b.atR a' (.inRegion ops [] :: k)) cs w') := by
      intro s1 ρ1 w1 a1 st1 hd1 hs1
      obtain ⟨s2, st2, hf2⟩ := st1.advance d hr0 hB _ _ rfl
      obtain ⟨D', ρ', w', a', g1, g2, g3, g4⟩ := draw_steps C hR hall d hr0 hB hi0 hg0 l (D ++ [i]) s2 ρ1 w1 a1 hord' hf2 st2
      exact ⟨D', ρ', w', a', g1, g2, g3.trans hd1, hs1.trans g4⟩
    -- a store or a call comes up where the text's heap stands
    have heavyAt : isHeavy o.op = true → i = s := by
      intro hh
      rcases Nat.lt_or_ge i s with h1 | h1
      · exact absurd (st.s1 i o h1 ho hh) hD
      · by_cases e : i = s
        · exact e
        · exfalso
          rcases hf with h2 | ⟨p, hp, hph, hsD⟩
          · omega
          · exact hsD (st.ahead_in d ho hdir (d.heavy i s o p ho hp hh hph (by omega)))
    rcases d.cases ho with ⟨hw, hvu, he⟩ | ⟨hw, hl, hv, he⟩ | ⟨hw, hk, bl, f, ha, hvf, he⟩ | ⟨hw, hh, hv⟩
    · -- passed over
      have hw' : Region.wanted o (yielded ops a.tmps) = false := by
        rw [hopsA]; exact wanted_rel st.env (by rw [hwsame]; exact hw)
      have hstep : step P (lone (b.atR a (.inRegion ops (i :: l) :: k)) cs w) = .next (lone (b.atR (a.put o.dst undef) (.inRegion ops l :: k)) cs w) := by
        have := stepR_op_skip (P := P) (b := b) (a := a) (k := k) (cs := cs) (w := w) (ops := ops) (i := i) (rest := l) (by rw [ho']; simpa using hw')
        rw [ho'] at this
        exact this
      have hvr : VRel ρ (V i) undef := by rw [hvu]; exact undef_rel
      cases hh : isHeavy o.op with
      | true =>
        have his := heavyAt hh
        subst his
        refine go (i + 1) ρ w (a.put o.dst undef) ?_ put_defers (.one hstep)
        rw [put_list]
        exact st.loud ho hD hh hdir (by rw [he]; exact Evo.refl st.evo.inv) hvr
      | false =>
        refine go s ρ w (a.put o.dst undef) ?_ put_defers (.one hstep)
        rw [put_list]
        exact st.value ho hdir hh (fun hx => by rw [hw] at hx; cases hx.2) hvr
    · -- it makes nothing, and writes nothing
      have hw' : Region.wanted o (yielded ops a.tmps) = true := by
        rw [hopsA]; exact wanted_rel st.env (by rw [hwsame]; exact hw)
      have hval := st.sameLight d hf ho hD hdir hl hw
      rw [← light_congr o.op hevsame] at hval
      have hone : ∃ v', VRel ρ (V i) v' ∧ Steps P (lone (b.atR a (.inRegion ops (i :: l) :: k)) cs w) (lone (b.atR (a.put o.dst v') (.inRegion ops l :: k)) cs w) := by
        obtain ⟨dst, op, ty, pos, after, guard⟩ := o
        simp only at hval hl
        rcases kind_light hl with hk | hk
        · have hal : alight P (aeval P (EnvD all V (E 0) D)) (H s) op = some (V i) := by
            cases op <;> first | exact hval | (simp [kindOf] at hk)
          obtain ⟨v', hr, hrel⟩ := light_sound st.evo.inv hev { dst := dst, op := op, type := ty, pos := pos, after := after, guard := guard } hal
          exact ⟨v', hrel, .one (stepV ho' hw' (kind_not_defer (by rw [hk]; simp)) hr)⟩
        · cases op with
          | call c =>
            obtain ⟨callee, args, argTypes⟩ := c
            cases callee with
            | builtin bi =>
              simp only [lightVal] at hval
              split at hval
              · rename_i hbi
                simp only [Option.map_eq_some_iff] at hval
                obtain ⟨⟨u, g1⟩, hbv, hu⟩ := hval
                simp only at hu; subst hu
                obtain ⟨v', hrel, hr⟩ := lit_sound (ty := ty) (consts := args.map fun | .const _ => true | _ => false) (args' := args.toList.map a.eval) (w := w) hbi (LRel.map_ev hev _) hbv
                refine ⟨v', hrel, .one (stepV ho' hw' (fun c hc => by cases hc) ?_)⟩
                have : args.map a.eval = ⟨args.toList.map a.eval⟩ := Array.ext' (by simp)
                simp only [execOp, resolve, Sem.run_bind, Sem.run_pure, Result.andThen_ok, invoke]
                rw [this]
                exact hr
              · cases hval
            | _ => simp [lightVal] at hval
          | _ => simp [kindOf] at hk
      obtain ⟨v', hrel, hs⟩ := hone
      refine go s ρ w (a.put o.dst v') ?_ put_defers hs
      rw [put_list]
      exact st.value ho hdir (not_both hl).1 (fun hx => (not_both hl).2 hx.1) hrel
    · -- it makes a block
      have hw' : Region.wanted o (yielded ops a.tmps) = true := by
        rw [hopsA]; exact wanted_rel st.env (by rw [hwsame]; exact hw)
      have ha' := ha
      rw [← aalloc_congr o.op hevsame] at ha'
      obtain ⟨o', g, hb, hr, hval⟩ := alloc_sound (P := P) (w := w) hev o ha'
      refine go s (upd ρ (r0 + i) (w.heap.size, 0)) (w.alloc o') (a.put o.dst (g w.heap.size)) ?_ put_defers (.one (stepV ho' hw' (kind_not_defer (by rw [hk]; simp)) hr))
      rw [put_list]
      exact st.block hr0 hB ho hD hdir hk hw ha hb (by rw [hvf]; exact hval _ _ _ upd_same)
    · -- a store, or a call
      have hw' : Region.wanted o (yielded ops a.tmps) = true := by
        rw [hopsA]; exact wanted_rel st.env (by rw [hwsame]; exact hw)
      have his := heavyAt hh
      subst his
      rw [← heavy_congr o.op hevsame] at hv
      obtain ⟨ρ1, w1, v1, e1, r1, s1⟩ := heavy_sound C hR st.evo.inv hG hev k cs ho' hw' (b := b) (is := l) hv
      refine go (i + 1) ρ1 w1 (a.put o.dst v1) ?_ put_defers s1
      rw [put_list]
      exact st.loud ho hD hh hdir e1 r1

end Go.Ab
