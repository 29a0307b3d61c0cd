/- The abstract machine: regions that draw, joined. -/
import Derived.Test.YtflmoocllahjnaaAb19
namespace Go.Ab
open Go.RowKit
variable {P : Program} {B : Nat} {K : FuncId → List Value → Option Value}

theorem zip_all {α : Type} {l : List α} {f : α × Nat → Bool} (h : l.zipIdx.all f = true) {k : Nat} {o : α} (ho : l[k]? = some o) : f (o, k) = true := by
  rw [List.all_eq_true] at h
  exact h (o, k) (List.mem_zipIdx_iff_getElem?.2 ho)

theorem sorted_find {l : List Nat} (hs : l.Pairwise (· < ·)) {i p : Nat} (hf : l.find? (fun x => decide (i < x)) = some p) : i < p ∧ p ∈ l ∧ ∀ j ∈ l, i < j → p ≤ j := by
  obtain ⟨h1, as, bs, rfl, h2⟩ := List.find?_eq_some_iff_append.1 hf
  refine ⟨by simpa using h1, by simp, ?_⟩
  intro j hj hij
  rcases List.mem_append.1 hj with h | h
  · have := h2 j h; simp at this; omega
  · rw [List.pairwise_append] at hs
    rcases List.mem_cons.1 h with h | h
    · omega
    · have := (List.pairwise_cons.1 hs.2.1).1 j h; omega

/-- what 'drawOk' says, said of its operations -/
structure Fit (all : List Oper) : Prop where
  dir : ∀ (k : Nat) o, all[k]? = some o → ∀ j ∈ directs o, j < k
  kind : ∀ (k : Nat) o, all[k]? = some o → kindOf o.op ≠ .other
  dsts : ∀ i j : Nat, ∀ t, (all[i]?).bind (·.dst) = some t → (all[j]?).bind (·.dst) = some t → i = j
  tmps : ∀ i j : Nat, ∀ o p d, all[i]? = some o → all[j]? = some p → i ≠ j → p.dst = some d → d ∈ opTmps all o → (j < i → ahead (predsOf all []) j i = true) ∧ (i < j → ahead (predsOf all []) i j = true)
  heavy : ∀ i j : Nat, ∀ o p, all[i]? = some o → all[j]? = some p → isHeavy o.op = true → isHeavy p.op = true → j < i → ahead (predsOf all []) j i = true

theorem drawOk_fit {all : List Oper} (h : drawOk all = true) : Fit all := by
  unfold drawOk at h
  simp only [Bool.and_eq_true] at h
  obtain ⟨⟨⟨h1, h2⟩, h3⟩, _⟩ := h
  have pair : ∀ i j : Nat, ∀ o p, all[i]? = some o → all[j]? = some p → i ≠ j →
      (o.dst.isNone || o.dst != p.dst) = true ∧
      (match p.dst with | some d => !(opTmps all o).contains d || (if j < i then ahead (predsOf all []) j i else ahead (predsOf all []) i j) | none => true) = true ∧
      (!(isHeavy o.op && isHeavy p.op && decide (j < i)) || ahead (predsOf all []) j i) = true := by
    intro i j o p ho hp hij
    have := zip_all (zip_all h3 ho) hp
    simp only [Bool.or_eq_true, beq_iff_eq, hij, false_or, Bool.and_eq_true] at this
    exact ⟨by simpa using this.1.1, this.1.2, by simpa using this.2⟩
  refine { dir := ?_, kind := ?_, dsts := ?_, tmps := ?_, heavy := ?_ }
  · intro k o ho j hj
    have := zip_all h1 ho
    simp only [List.all_eq_true, decide_eq_true_eq] at this
    exact this j hj
  · intro k o ho
    rw [List.all_eq_true] at h2
    have := h2 o (List.mem_of_getElem? ho)
    intro hk
    split at this
    · cases this
    · cases this
    · simp [hk] at this
  · intro i j t hi hj
    refine Classical.byContradiction fun hij => ?_
    cases ho : all[i]? with
    | none => rw [ho] at hi; cases hi
    | some o =>
      cases hp : all[j]? with
      | none => rw [hp] at hj; cases hj
      | some p =>
        rw [ho] at hi; rw [hp] at hj
        simp only [Option.bind_some] at hi hj
        have := (pair i j o p ho hp hij).1
        simp [hi, hj] at this
  · intro i j o p d ho hp hij hd ht
    have := (pair i j o p ho hp hij).2.1
    rw [hd] at this
    simp only at this
    have hc : (opTmps all o).contains d = true := by simpa using ht
    rw [hc] at this
    simp only [Bool.not_true, Bool.false_or] at this
    refine ⟨fun hlt => by rw [if_pos hlt] at this; exact this, fun hlt => by rw [if_neg (by omega)] at this; exact this⟩
  · intro i j o p ho hp h1 h2 hlt
    have := (pair i j o p ho hp (by omega)).2.2
    simpa [h1, h2, hlt] using this

theorem own_of {all : List Oper} {i s n : Nat} (hn : n = all.length) (hi : i < n) :
    let heavy := (List.range n).filter fun i => (all[i]?).any fun o => isHeavy o.op
    ((heavy ++ [n]).find? fun x => decide (i < x)).getD n = s → i < s ∧ ∀ j p, i < j → j < s → all[j]? = some p → isHeavy p.op = false := by
  intro heavy hs
  have hsorted : (heavy ++ [n]).Pairwise (· < ·) := by
    rw [List.pairwise_append]
    refine ⟨(List.pairwise_lt_range).filter _, by simp, ?_⟩
    intro a ha b hb
    have := (List.mem_filter.1 ha).1
    rw [List.mem_range] at this
    have : b = n := by simpa using hb
    omega
  cases hf : (heavy ++ [n]).find? fun x => decide (i < x) with
  | none =>
    rw [List.find?_eq_none] at hf
    have := hf n (by simp)
    simp at this; omega
  | some p =>
    rw [hf] at hs
    simp only [Option.getD_some] at hs
    subst hs
    obtain ⟨h1, _, h3⟩ := sorted_find hsorted hf
    refine ⟨h1, ?_⟩
    intro j q hij hjp hq
    cases hh : isHeavy q.op with
    | false => rfl
    | true =>
      have hjn : j < n := by rw [hn]; exact (List.getElem?_eq_some_iff.1 hq).1
      have := h3 j (List.mem_append_left _ (List.mem_filter.2 ⟨List.mem_range.2 hjn, by simp [hq, hh]⟩)) hij
      omega

theorem floats_mem {all : List Oper} {i s : Nat} {o : Oper} (ho : all[i]? = some o) (hl : isLight o.op = true) (hph : s = all.length ∨ ∃ p, all[s]? = some p ∧ isHeavy p.op = true)
    (hah : ∀ j p, all[j]? = some p → isHeavy p.op = true → (j < s → ahead (predsOf all []) i j = false) ∧ (s ≤ j → ahead (predsOf all []) j i = false))
    (hown : ¬ (i < s ∧ ∀ j p, i < j → j < s → all[j]? = some p → isHeavy p.op = false)) : (i, s) ∈ floats all := by
  have hil : i < all.length := (List.getElem?_eq_some_iff.1 ho).1
  unfold floats
  simp only
  rw [List.mem_flatMap]
  refine ⟨i, List.mem_range.2 hil, ?_⟩
  rw [if_pos (by simp [ho, hl])]
  rw [List.mem_map]
  refine ⟨s, ?_, rfl⟩
  rw [List.mem_filter]
  constructor
  · rcases hph with h | ⟨p, hp, hph⟩
    · simp [h]
    · exact List.mem_append_left _ (List.mem_filter.2 ⟨List.mem_range.2 (List.getElem?_eq_some_iff.1 hp).1, by simp [hp, hph]⟩)
  · rw [Bool.and_eq_true]
    constructor
    · simp only [bne_iff_ne, ne_eq]
      intro he
      exact hown (own_of rfl hil he.symm)
    · rw [List.all_eq_true]
      intro j hj
      rw [List.mem_filter] at hj
      obtain ⟨hj1, hj2⟩ := hj
      cases hp : all[j]? with
      | none => simp [hp] at hj2
      | some p =>
        simp [hp] at hj2
        obtain ⟨h1, h2⟩ := hah j p hp hj2
        split
        · rename_i h; simp [h1 h]
        · rename_i h; simp [h2 (by omega)]

theorem text_len {R : Run} {all : List Oper} {r0 : Nat} : ∀ (os : List Oper) (i : Nat) (env : List Value) (h : AH) (rs : List Rec) (e : List Value) (hN : AH), drawText P R all r0 i os env h = some (rs, e, hN) → rs.length = os.length
  | [], i, env, h, rs, e, hN, ht => by
    simp only [drawText, Option.some.injEq, Prod.mk.injEq] at ht
    rw [← ht.1]; rfl
  | o :: os, i, env, h, rs, e, hN, ht => by
    simp only [drawText] at ht
    split at ht
    · split at ht
      · rename_i hs
        simp only [Option.some.injEq, Prod.mk.injEq] at ht
        rw [← ht.1, List.length_cons, List.length_cons, text_len os _ _ _ _ _ _ hs]
      · cases ht
    · cases ht

theorem draw_ok (C : Ctx P B K) (R : Run) (hR : RunOk C R) : DrawOk C R := by
  intro ops env h env' h' hrun ρ w b a cs k t hi hg he
  unfold drawRun at hrun
  split at hrun
  · rename_i hok
    rw [Bool.and_eq_true] at hok
    obtain ⟨hok, hmode⟩ := hok
    split at hrun
    · rename_i rs e hN htext
      split at hrun
      · rename_i hfl
        simp only [Option.some.injEq, Prod.mk.injEq] at hrun
        obtain ⟨rfl, rfl⟩ := hrun
        have fit := drawOk_fit hok
        generalize hall : ops.toList = all at fit htext hfl hok
        have hsz : ops.size = all.length := by rw [← hall]; simp
        obtain ⟨E, H, V, hE0, hH0, hstep, hEn, hHn, hrs⟩ := text_trace all 0 env _ rs e hN htext
        have d : Dr P R all h.next E H V := {
          step := fun j o ho => by have := (hstep j o ho).1; rwa [Nat.zero_add] at this
          env := fun j o ho => (hstep j o ho).2
          dir := fit.dir, kind := fit.kind, dsts := fit.dsts, tmps := fit.tmps, heavy := fit.heavy
          flt := fun i s o ho hl hs hph hah hown hw => by
            rw [List.all_eq_true] at hfl
            have := hfl (i, s) (floats_mem ho hl hph hah hown)
            have hil : i < all.length := (List.getElem?_eq_some_iff.1 ho).1
            unfold floatOk at this
            simp only [ho, hrs i hil, hw] at this
            have hh : lightVal P (aeval P (E i)) (H s) o.op = some (V i) := by
              rcases Nat.lt_or_ge s all.length with h1 | h1
              · rw [hrs s h1] at this
                simp only at this
                split at this
                · rename_i v hv
                  rw [hv, veq_eq _ _ this]
                · cases this
              · have hse : s = all.length := by omega
                rw [List.getElem?_eq_none (by rw [text_len _ _ _ _ _ _ _ htext]; omega)] at this
                simp only at this
                rw [hse, hHn]
                split at this
                · rename_i v hv
                  rw [hv, veq_eq _ _ this]
                · cases this
            exact hh }
        have hB : B ≤ w.heap.size := hi.size
        have hi' : Inv P B ρ (H 0) w := by
          rw [hH0]
          exact { blk := hi.blk, inj := hi.inj, low := hi.low, old := hi.old, fresh := fun i h1 => hi.fresh i (by simp at h1; omega), freshG := fun i h1 => hi.freshG i (by simp at h1; omega), glob := hi.glob, size := hi.size, bn := by have := hi.bn; show h.base ≤ h.next + ops.size; omega }
        have hget0 : ∀ i, (H 0).get i = h.get i := fun i => by rw [hH0]; rfl
        have st0 : St P B all h.next E H V ρ h w [] 0 ρ w a.tmps.toList := {
          evo := { ext := Ext.refl _, inv := hi', un := fun _ _ h => h, keepU := fun i _ _ => hget0 i, stay := fun i _ h1 => by rw [hget0]; exact h1, frame := fun _ _ _ => rfl,
                   range := fun i b s h1 h2 h3 _ => ⟨i, s, h1, by rw [hget0] at h2; exact h2, h3⟩, base := by rw [hH0], oldG := fun i _ => hget0 i, size := Nat.le_refl _, os := rfl, out := rfl, tape := rfl }
          dlt := fun i h1 => by cases h1
          closed := fun i h1 => by cases h1
          s1 := fun j o h1 => by omega
          s3 := fun j o _ _ h1 => by cases h1
          sle := Nat.zero_le _
          env := by rw [hE0]; exact he
          nx := by rw [hH0, ← hsz]; exact Nat.le_refl _
          pend := fun i o b f _ h1 => by cases h1
          resv := fun i n t h1 h2 => by rw [hi.fresh _ (by omega)] at h2; cases h2
          lone := fun i n t _ h1 h2 => by rw [hi.fresh _ (by omega)] at h2; cases h2
          injR := fun i i' n t t' _ _ h2 => by rw [hi.fresh _ (by omega)] at h2; cases h2
          unm := fun i _ _ => hi.fresh _ (by omega)
          unA := fun i o _ _ => hi.fresh _ (by omega)
          rev := fun i o b f h1 => by omega
          non := fun j _ _ => by rw [hget0]; exact hi.freshG _ (by omega)
          gr := fun m hm _ => by have : m = 0 := by omega
                                 subst this; exact Grows.refl _ }
        obtain ⟨s, st1, hf1⟩ := st0.advance d hi.bn hB _ _ rfl
        have hsched : Region.schedule (P.follows .mixedOrders) ops t = Region.linearise.go .any ops ops.size t (Array.replicate ops.size false) [] := by
          unfold Region.schedule
          rw [if_pos hmode]
          rfl
        have hord : OrdFrom all [] (Region.schedule (P.follows .mixedOrders) ops t) := by
          rw [hsched, ← hall]
          refine linearise_ord (by rw [hall]; exact fit.dir) ops.size t _ [] (by simp) (fun i hi => by simp [hi]) ?_
          exact Nat.le_trans (List.length_filter_le _ _) (by simp)
        obtain ⟨D', ρ', w', a', st2, hin, hdef, hst⟩ := draw_steps C hR hall d hi.bn hB hi hg (b := b) (cs := cs) (k := k) _ [] s ρ w a hord hf1 st1
        have hevoN := st2.evo
        rw [hHn] at hevoN
        have hnx := st2.nx
        rw [hHn] at hnx
        refine ⟨ρ', w', a', hevoN.evo (by omega), ?_, hdef, hst⟩
        have henv : e = EnvD all V (E 0) D' := by
          rw [← hEn, d.envE _ (Nat.le_refl _)]
          refine List.ext_getElem? fun t => EnvD_same (fun i j h1 h2 => fit.dsts i j t h1 h2) fun j hj => ?_
          have hjl : j < all.length := by
            cases hp : all[j]? with
            | none => rw [hp] at hj; cases hj
            | some p => exact (List.getElem?_eq_some_iff.1 hp).1
          simp [hjl, hin j hjl]
        rw [henv]
        exact st2.env
      · cases hrun
    · cases hrun
  · cases hrun

/-- A RUN OF THE ABSTRACT MACHINE IS ONE OF THE MODEL'S. -/
theorem run_sound (C : Ctx P B K) (n : Nat) : RunOk C (run P K n) := run_ok C (draw_ok C) n

end Go.Ab
