/- The abstract machine: places in a function's text. -/
import Derived.Test.YtincdgimnjofpaaDoorB2
section
namespace Go.Ab
open Go.RowKit
variable {P : Program} {B : Nat} {K : FuncId → List Value → Option Ans}

theorem zip_all {α : Type} {l : List α} {f : α × Nat → Bool} (h : l.zipIdx.all f = true) {k : Nat} {o : α} (ho : l[k]? = some o) : f (o, k) = true := by
  rw [List.all_eq_true] at h
  exact h (o, k) (List.mem_zipIdx_iff_getElem?.2 ho)

theorem sorted_find {l : List Nat} (hs : l.Pairwise (· < ·)) {i p : Nat} (hf : l.find? (fun x => decide (i < x)) = some p) : i < p ∧ p ∈ l ∧ ∀ j ∈ l, i < j → p ≤ j := by
  obtain ⟨h1, as, bs, rfl, h2⟩ := List.find?_eq_some_iff_append.1 hf
  refine ⟨by simpa using h1, by simp, ?_⟩
  intro j hj hij
  rcases List.mem_append.1 hj with h | h
  · have := h2 j h; simp at this; omega
  · rw [List.pairwise_append] at hs
    rcases List.mem_cons.1 h with h | h
    · omega
    · have := (List.pairwise_cons.1 hs.2.1).1 j h; omega

/-- what 'drawOk' says, said of its operations -/
structure Fit (all : List Oper) : Prop where
  dir : ∀ (k : Nat) o, all[k]? = some o → ∀ j ∈ directs o, j < k
  kind : ∀ (k : Nat) o, all[k]? = some o → kindOf o.op ≠ .other
  dsts : ∀ i j : Nat, ∀ t, (all[i]?).bind (·.dst) = some t → (all[j]?).bind (·.dst) = some t → i = j
  tmps : ∀ i j : Nat, ∀ o p d, all[i]? = some o → all[j]? = some p → i ≠ j → p.dst = some d → d ∈ opTmps all o → (j < i → ahead (predsOf all []) j i = true) ∧ (i < j → ahead (predsOf all []) i j = true)
  heavy : ∀ i j : Nat, ∀ o p, all[i]? = some o → all[j]? = some p → isHeavy o.op = true → isHeavy p.op = true → j < i → ahead (predsOf all []) j i = true

theorem drawOk_fit {all : List Oper} (h : drawOk all = true) : Fit all := by
  unfold drawOk at h
  simp only [Bool.and_eq_true] at h
  obtain ⟨⟨⟨h1, h2⟩, h3⟩, _⟩ := h
  have pair : ∀ i j : Nat, ∀ o p, all[i]? = some o → all[j]? = some p → i ≠ j →
      (o.dst.isNone || o.dst != p.dst) = true ∧
      (match p.dst with | some d => !(opTmps all o).contains d || (if j < i then ahead (predsOf all []) j i else ahead (predsOf all []) i j) | none => true) = true ∧
      (!(isHeavy o.op && isHeavy p.op && decide (j < i)) || ahead (predsOf all []) j i) = true := by
    intro i j o p ho hp hij
    have := zip_all (zip_all h3 ho) hp
    simp only [Bool.or_eq_true, beq_iff_eq, hij, false_or, Bool.and_eq_true] at this
    exact ⟨by simpa using this.1.1, this.1.2, by simpa using this.2⟩
  refine { dir := ?_, kind := ?_, dsts := ?_, tmps := ?_, heavy := ?_ }
  · intro k o ho j hj
    have := zip_all h1 ho
    simp only [List.all_eq_true, decide_eq_true_eq] at this
    exact this j hj
  · intro k o ho
    rw [List.all_eq_true] at h2
    have := h2 o (List.mem_of_getElem? ho)
    intro hk
    split at this
    · cases this
    · cases this
    · simp [hk] at this
  · intro i j t hi hj
    refine Classical.byContradiction fun hij => ?_
    cases ho : all[i]? with
    | none => rw [ho] at hi; cases hi
    | some o =>
      cases hp : all[j]? with
      | none => rw [hp] at hj; cases hj
      | some p =>
        rw [ho] at hi; rw [hp] at hj
        simp only [Option.bind_some] at hi hj
        have := (pair i j o p ho hp hij).1
        simp [hi, hj] at this
  · intro i j o p d ho hp hij hd ht
    have := (pair i j o p ho hp hij).2.1
    rw [hd] at this
    simp only at this
    have hc : (opTmps all o).contains d = true := by simpa using ht
    rw [hc] at this
    simp only [Bool.not_true, Bool.false_or] at this
    refine ⟨fun hlt => by rw [if_pos hlt] at this; exact this, fun hlt => by rw [if_neg (by omega)] at this; exact this⟩
  · intro i j o p ho hp h1 h2 hlt
    have := (pair i j o p ho hp (by omega)).2.2
    simpa [h1, h2, hlt] using this

theorem own_of {all : List Oper} {i s n : Nat} (hn : n = all.length) (hi : i < n) :
    let heavy := (List.range n).filter fun i => (all[i]?).any fun o => isHeavy o.op
    ((heavy ++ [n]).find? fun x => decide (i < x)).getD n = s → i < s ∧ ∀ j p, i < j → j < s → all[j]? = some p → isHeavy p.op = false := by
  intro heavy hs
  have hsorted : (heavy ++ [n]).Pairwise (· < ·) := by
    rw [List.pairwise_append]
    refine ⟨(List.pairwise_lt_range).filter _, by simp, ?_⟩
    intro a ha b hb
    have := (List.mem_filter.1 ha).1
    rw [List.mem_range] at this
    have : b = n := by simpa using hb
    omega
  cases hf : (heavy ++ [n]).find? fun x => decide (i < x) with
  | none =>
    rw [List.find?_eq_none] at hf
    have := hf n (by simp)
    simp at this; omega
  | some p =>
    rw [hf] at hs
    simp only [Option.getD_some] at hs
    subst hs
    obtain ⟨h1, _, h3⟩ := sorted_find hsorted hf
    refine ⟨h1, ?_⟩
    intro j q hij hjp hq
    cases hh : isHeavy q.op with
    | false => rfl
    | true =>
      have hjn : j < n := by rw [hn]; exact (List.getElem?_eq_some_iff.1 hq).1
      have := h3 j (List.mem_append_left _ (List.mem_filter.2 ⟨List.mem_range.2 hjn, by simp [hq, hh]⟩)) hij
      omega

theorem floats_mem {all : List Oper} {i s : Nat} {o : Oper} (ho : all[i]? = some o) (hl : isLight o.op = true) (hph : s = all.length ∨ ∃ p, all[s]? = some p ∧ isHeavy p.op = true)
    (hah : ∀ j p, all[j]? = some p → isHeavy p.op = true → (j < s → ahead (predsOf all []) i j = false) ∧ (s ≤ j → ahead (predsOf all []) j i = false))
    (hown : ¬ (i < s ∧ ∀ j p, i < j → j < s → all[j]? = some p → isHeavy p.op = false)) : (i, s) ∈ floats all := by
  have hil : i < all.length := (List.getElem?_eq_some_iff.1 ho).1
  unfold floats
  simp only
  rw [List.mem_flatMap]
  refine ⟨i, List.mem_range.2 hil, ?_⟩
  rw [if_pos (by simp [ho, hl])]
  rw [List.mem_map]
  refine ⟨s, ?_, rfl⟩
  rw [List.mem_filter]
  constructor
  · rcases hph with h | ⟨p, hp, hph⟩
    · simp [h]
    · exact List.mem_append_left _ (List.mem_filter.2 ⟨List.mem_range.2 (List.getElem?_eq_some_iff.1 hp).1, by simp [hp, hph]⟩)
  · rw [Bool.and_eq_true]
    constructor
    · simp only [bne_iff_ne, ne_eq]
      intro he
      exact hown (own_of rfl hil he.symm)
    · rw [List.all_eq_true]
      intro j hj
      rw [List.mem_filter] at hj
      obtain ⟨hj1, hj2⟩ := hj
      cases hp : all[j]? with
      | none => simp [hp] at hj2
      | some p =>
        simp [hp] at hj2
        obtain ⟨h1, h2⟩ := hah j p hp hj2
        split
        · rename_i h; simp [h1 h]
        · rename_i h; simp [h2 (by omega)]

theorem text_len {R : Run} {all : List Oper} {r0 : Nat} : ∀ (os : List Oper) (i : Nat) (env : List Value) (h : AH) (rs : List Rec) (e : List Value) (hN : AH), drawText P R all r0 i os env h = some (rs, e, hN) → rs.length = os.length
  | [], i, env, h, rs, e, hN, ht => by
    simp only [drawText, Option.some.injEq, Prod.mk.injEq] at ht
    rw [← ht.1]; rfl
  | o :: os, i, env, h, rs, e, hN, ht => by
    simp only [drawText] at ht
    split at ht
    · split at ht
      · rename_i hs
        simp only [Option.some.injEq, Prod.mk.injEq] at ht
        rw [← ht.1, List.length_cons, List.length_cons, text_len os _ _ _ _ _ _ hs]
      · cases ht
    · cases ht

theorem draw_ok (C : Ctx P B K) (R : Run) (hR : RunOk C R) : DrawOk C R := by
  intro ops env h env' h' hrun ρ w b a cs k t hi hg he
  unfold drawRun at hrun
  split at hrun
  · rename_i hok
    rw [Bool.and_eq_true] at hok
    obtain ⟨hok, hmode⟩ := hok
    split at hrun
    · rename_i rs e hN htext
      split at hrun
      · rename_i hfl
        simp only [Option.some.injEq, Prod.mk.injEq] at hrun
        obtain ⟨rfl, rfl⟩ := hrun
        have fit := drawOk_fit hok
        generalize hall : ops.toList = all at fit htext hfl hok
        have hsz : ops.size = all.length := by rw [← hall]; simp
        obtain ⟨E, H, V, hE0, hH0, hstep, hEn, hHn, hrs⟩ := text_trace all 0 env _ rs e hN htext
        have d : Dr P R all h.next E H V := {
          step := fun j o ho => by have := (hstep j o ho).1; rwa [Nat.zero_add] at this
          env := fun j o ho => (hstep j o ho).2
          dir := fit.dir, kind := fit.kind, dsts := fit.dsts, tmps := fit.tmps, heavy := fit.heavy
          flt := fun i s o ho hl hs hph hah hown hw => by
            rw [List.all_eq_true] at hfl
            have := hfl (i, s) (floats_mem ho hl hph hah hown)
            have hil : i < all.length := (List.getElem?_eq_some_iff.1 ho).1
            unfold floatOk at this
            simp only [ho, hrs i hil, hw] at this
            have hh : lightVal P (aeval P (E i)) (H s) o.op = some (V i) := by
              rcases Nat.lt_or_ge s all.length with h1 | h1
              · rw [hrs s h1] at this
                simp only at this
                split at this
                · rename_i v hv
                  rw [hv, veq_eq _ _ this]
                · cases this
              · have hse : s = all.length := by omega
                rw [List.getElem?_eq_none (by rw [text_len _ _ _ _ _ _ _ htext]; omega)] at this
                simp only at this
                rw [hse, hHn]
                split at this
                · rename_i v hv
                  rw [hv, veq_eq _ _ this]
                · cases this
            exact hh }
        have hB : B ≤ w.heap.size := hi.size
        have hi' : Inv P B ρ (H 0) w := by
          rw [hH0]
          exact { blk := hi.blk, inj := hi.inj, low := hi.low, old := hi.old, fresh := fun i h1 => hi.fresh i (by simp at h1; omega), freshG := fun i h1 => hi.freshG i (by simp at h1; omega), glob := hi.glob, size := hi.size, bn := by have := hi.bn; show h.base ≤ h.next + ops.size; omega }
        have hget0 : ∀ i, (H 0).get i = h.get i := fun i => by rw [hH0]; rfl
        have st0 : St P B all h.next E H V ρ h w [] 0 ρ w a.tmps.toList := {
          evo := { ext := Ext.refl _, inv := hi', un := fun _ _ h => h, keepU := fun i _ _ => hget0 i, stay := fun i _ h1 => by rw [hget0]; exact h1, frame := fun _ _ _ => rfl,
                   range := fun i b s h1 h2 h3 _ => ⟨i, s, h1, by rw [hget0] at h2; exact h2, h3⟩, base := by rw [hH0], oldG := fun i _ => hget0 i, size := Nat.le_refl _, os := rfl, out := rfl, tape := rfl }
          dlt := fun i h1 => by cases h1
          closed := fun i h1 => by cases h1
          s1 := fun j o h1 => by omega
          s3 := fun j o _ _ h1 => by cases h1
          sle := Nat.zero_le _
          env := by rw [hE0]; exact he
          nx := by rw [hH0, ← hsz]; exact Nat.le_refl _
          pend := fun i o b f _ h1 => by cases h1
          resv := fun i n t h1 h2 => by rw [hi.fresh _ (by omega)] at h2; cases h2
          lone := fun i n t _ h1 h2 => by rw [hi.fresh _ (by omega)] at h2; cases h2
          injR := fun i i' n t t' _ _ h2 => by rw [hi.fresh _ (by omega)] at h2; cases h2
          unm := fun i _ _ => hi.fresh _ (by omega)
          unA := fun i o _ _ => hi.fresh _ (by omega)
          rev := fun i o b f h1 => by omega
          non := fun j _ _ => by rw [hget0]; exact hi.freshG _ (by omega)
          gr := fun m hm _ => by have : m = 0 := by omega
                                 subst this; exact Grows.refl _ }
        obtain ⟨s, st1, hf1⟩ := st0.advance d hi.bn hB _ _ rfl
        have hsched : Region.schedule (P.follows .mixedOrders) ops t = Region.linearise.go .any ops ops.size t (Array.replicate ops.size false) [] := by
          unfold Region.schedule
          rw [if_pos hmode]
          rfl
        have hord : OrdFrom all [] (Region.schedule (P.follows .mixedOrders) ops t) := by
          rw [hsched, ← hall]
          refine linearise_ord (by rw [hall]; exact fit.dir) ops.size t _ [] (by simp) (fun i hi => by simp [hi]) ?_
          exact Nat.le_trans (List.length_filter_le _ _) (by simp)
        obtain ⟨D', ρ', w', a', st2, hin, hdef, hst⟩ := draw_steps C hR hall d hi.bn hB hi hg (b := b) (cs := cs) (k := k) _ [] s ρ w a hord hf1 st1
        have hevoN := st2.evo
        rw [hHn] at hevoN
        have hnx := st2.nx
        rw [hHn] at hnx
        refine ⟨ρ', w', a', hevoN.evo (by omega), ?_, hdef, hst⟩
        have henv : e = EnvD all V (E 0) D' := by
          rw [← hEn, d.envE _ (Nat.le_refl _)]
          refine List.ext_getElem? fun t => EnvD_same (fun i j h1 h2 => fit.dsts i j t h1 h2) fun j hj => ?_
          have hjl : j < all.length := by
            cases hp : all[j]? with
            | none => rw [hp] at hj; cases hj
            | some p => exact (List.getElem?_eq_some_iff.1 hp).1
          simp [hjl, hin j hjl]
        rw [henv]
        exact st2.env
      · cases hrun
    · cases hrun
  · cases hrun

/-- A RUN OF THE ABSTRACT MACHINE IS ONE OF THE MODEL'S. -/
theorem run_sound (C : Ctx P B K) (n : Nat) : RunOk C (run P K n) := run_ok C (draw_ok C) n

end Go.Ab
end
section
namespace Go.Ab
variable {P : Program} {K : FuncId → List Value → Option Ans}

def Run.le (R R' : Run) : Prop := ∀ t h r, R t h = some r → R' t h = some r

theorem heavyStep_le {R R' : Run} (hl : R.le R') {ev : Operand → Value} {h : AH} {op : Op} {r : Value × AH} (hr : heavyStep P R ev h op = some r) : heavyStep P R' ev h op = some r := by
  unfold heavyStep at hr ⊢
  split
  · exact hr
  · exact hr
  · simp only at hr ⊢
    split
    · rename_i he; simp only [he] at hr; exact hr
    · rename_i he
      simp only [he] at hr
      split
      · rename_i hf
        simp only [hf] at hr
        split
        · rename_i hc
          rw [if_pos hc] at hr
          simp only [Option.map_eq_some_iff] at hr ⊢
          obtain ⟨x, hx, rfl⟩ := hr
          exact ⟨x, hl _ _ _ hx, rfl⟩
        · rename_i hc; rw [if_neg hc] at hr; exact hr
      · rename_i hf
        simp only [hf] at hr
        simp only [Option.map_eq_some_iff] at hr ⊢
        obtain ⟨x, hx, rfl⟩ := hr
        exact ⟨x, hl _ _ _ hx, rfl⟩
      · rename_i h1 h2
        split at hr
        · rename_i hf; exact absurd hf (h1 _ _ _)
        · rename_i hf; exact absurd hf (h2 _ _ _)
        · cases hr
    · rename_i he; simp only [he] at hr; exact hr
  · rename_i h1 h2 h3
    split at hr
    · exact absurd rfl (h1 _ _ _)
    · exact absurd rfl (h2 _ _ _ _)
    · exact absurd rfl (h3 _)
    · cases hr
theorem opStep_le {R R' : Run} (hl : R.le R') {env : List Value} {h : AH} {op : Op} {r : Value × AH} (hr : opStep P R env h op = some r) : opStep P R' env h op = some r := by
  unfold opStep at hr ⊢
  cases hk : kindOf op <;> simp only [hk] at hr ⊢
  · exact hr
  · exact hr
  · exact heavyStep_le hl hr
  · exact heavyStep_le hl hr
  · exact hr
theorem drawStep_le {R R' : Run} (hl : R.le R') {all : List Oper} {r0 i : Nat} {env : List Value} {h : AH} {o : Oper} {r : Value × AH} (hr : drawStep P R all r0 i env h o = some r) : drawStep P R' all r0 i env h o = some r := by
  unfold drawStep at hr ⊢
  cases hw : aWanted ⟨all⟩ env o with
  | none => rw [hw] at hr; exact hr
  | some b =>
    rw [hw] at hr
    cases b with
    | false => exact hr
    | true =>
      simp only at hr ⊢
      split
      · rename_i hc; rw [if_pos hc] at hr; exact hr
      · rename_i hc
        rw [if_neg hc] at hr
        split
        · rename_i hc2; rw [if_pos hc2] at hr; exact hr
        · rename_i hc2; rw [if_neg hc2] at hr; exact heavyStep_le hl hr
theorem drawText_le {R R' : Run} (hl : R.le R') {all : List Oper} {r0 : Nat} : ∀ (os : List Oper) {i : Nat} {env : List Value} {h : AH} {r : List Rec × List Value × AH}, drawText P R all r0 i os env h = some r → drawText P R' all r0 i os env h = some r
  | [], _, _, _, _, hr => hr
  | o :: os, i, env, h, r, hr => by
    simp only [drawText] at hr ⊢
    split at hr
    · rename_i v h' hs
      rw [drawStep_le hl hs]
      simp only
      split at hr
      · rename_i rs e ht
        rw [drawText_le hl os ht]
        exact hr
      · cases hr
    · cases hr
theorem drawRun_le {R R' : Run} (hl : R.le R') {ops : Array Oper} {env : List Value} {h : AH} {r : List Value × AH} (hr : drawRun P R ops env h = some r) : drawRun P R' ops env h = some r := by
  unfold drawRun at hr ⊢
  split
  · rename_i hc
    rw [if_pos hc] at hr
    split at hr
    · rename_i ht
      rw [drawText_le hl _ ht]
      exact hr
    · cases hr
  · rename_i hc; rw [if_neg hc] at hr; exact hr

theorem runOps_le {R R' : Run} (hl : R.le R') {all : Array Oper} {rest : List Oper} {env : List Value} {h : AH} {r : Out × AH} (hr : runOps P R all rest env h = some r) : runOps P R' all rest env h = some r := by
  unfold runOps at hr ⊢
  cases rest with
  | nil => exact hr
  | cons o rest =>
    simp only at hr ⊢
    cases hw : aWanted all env o with
    | none => rw [hw] at hr; exact hr
    | some b =>
      rw [hw] at hr
      cases b with
      | false => exact hl _ _ _ hr
      | true =>
        simp only at hr ⊢
        split at hr
        · rename_i v h' hs
          rw [opStep_le hl hs]
          exact hl _ _ _ hr
        · cases hr
theorem runCall_le {R R' : Run} (hl : R.le R') {f : FuncId} {args : List Value} {h : AH} {r : Out × AH} (hr : runCall P K R f args h = some r) : runCall P K R' f args h = some r := by
  unfold runCall at hr ⊢
  split
  · rename_i hk; rw [hk] at hr; exact hr
  · rename_i hk
    rw [hk] at hr
    simp only at hr
    split at hr
    · rename_i hs
      rw [hl _ _ _ hs]
      exact hr
    · cases hr
  · rename_i hk; rw [hk] at hr; exact hr
  · rename_i hk
    rw [hk] at hr
    simp only at hr
    split at hr
    · split at hr
      · split at hr
        · rename_i hs
          rw [hl _ _ _ hs]
          exact hr
        · cases hr
      · cases hr
    · cases hr
theorem runRound_le {R R' : Run} (hl : R.le R') {l : Nat} {args : List Value} {h : AH} {r : Out × AH} (hr : runRound R l args h = some r) : runRound R' l args h = some r := by
  unfold runRound at hr ⊢
  split at hr
  · split at hr
    · rename_i hc
      rw [if_pos hc]
      split at hr
      · rename_i hs
        rw [hl _ _ _ hs]
        exact hr
      · cases hr
    · cases hr
  · cases hr
theorem runTodo_le {R R' : Run} (hl : R.le R') {fn : FuncId} {ro : Option Nat} {ds : List Nat} {env : List Value} {k : List Item} {h : AH} {r : Out × AH} (hr : runTodo P R fn ro ds env k h = some r) : runTodo P R' fn ro ds env k h = some r := by
  unfold runTodo at hr ⊢
  split at hr
  · exact hr
  · rename_i c k
    split at hr
    · exact hl _ _ _ hr
    · exact hl _ _ _ hr
    · exact hl _ _ _ hr
    · split at hr
      · exact hl _ _ _ hr
      · cases hr
    · exact hl _ _ _ hr
    · exact hl _ _ _ hr
    · exact hl _ _ _ hr
    · split at hr
      · exact hl _ _ _ hr
      · exact hr
    · exact hr
    · split at hr
      · rename_i hs
        rw [hl _ _ _ hs]
        exact hl _ _ _ hr
      · cases hr
    · split at hr
      · rename_i hs
        rw [drawRun_le hl hs]
        exact hl _ _ _ hr
      · cases hr
    · split at hr
      · rename_i d h1 ds1 hdd
        split at hr
        · rename_i g first captured hf
          split at hr
          · rename_i hcal
            rw [if_pos hcal]
            split at hr
            · rename_i hs
              rw [hl _ _ _ hs]
              simp only
              split at hr
              · split at hr
                · cases hr
                · rename_i hb
                  rw [if_neg hb]
                  split at hr
                  · exact hl _ _ _ hr
                  · cases hr
              · cases hr
            · cases hr
          · cases hr
        · cases hr
      · cases hr
    · cases hr
  · exact hl _ _ _ hr
  · exact hl _ _ _ hr
  · exact hl _ _ _ hr
  · split at hr
    · split at hr
      · split at hr
        · exact hl _ _ _ hr
        · cases hr
      · cases hr
    · cases hr
  · cases hr

theorem run_le : ∀ n, (run P K n).le (run P K (n + 1))
  | 0, t, h, r, hr => by simp [run] at hr
  | n + 1, t, h, r, hr => by
    have ih := run_le n
    cases t with
    | todo fn ro ds env k => exact runTodo_le ih hr
    | ops all rest env => exact runOps_le ih hr
    | call f args => exact runCall_le ih hr
    | round l args => exact runRound_le ih hr
theorem run_mono {n m : Nat} (h : n ≤ m) : (run P K n).le (run P K m) := by
  induction h with
  | refl => exact fun _ _ _ h => h
  | step _ ih => exact fun t g r hr => run_le _ _ _ _ (ih t g r hr)

end Go.Ab
end
section
namespace Go.Ab
noncomputable section
variable {P : Program} {K : FuncId → List Value → Option Ans}

def cmp1 (k : Nat) (a b : Value) : Option Bool := match k, a, b with
  | 0, .int k m, .int k' n => if k = k' then some (m == n) else none
  | 1, .bool m, .bool n => some (m == n)
  | 2, .string m, .string n => some (m == n)
  | _, _, _ => none
def cmpK : List Nat → List Value → List Value → Option Bool
  | [], [], [] => some true
  | k :: ks, x :: xs, y :: ys => match cmp1 k x y, cmpK ks xs ys with
    | some a, some b => some (a && b)
    | _, _ => none
  | _, _, _ => none
def flatFs (P : Program) (fl : TypeId → Option (List Nat)) : Nat → List Field → Option (List Nat)
  | _, [] => some []
  | o, f :: fs => if f.name = "_" ∨ f.offset ≠ o then none else
    match fl f.type, flatFs P fl (o + P.cellsOf f.type) fs with
    | some a, some b => if a.length = P.cellsOf f.type then some (a ++ b) else none
    | _, _ => none
/-- the kinds of the cells of a type: 0 a number, 1 a bool, 2 a text -/
def flatK (P : Program) : Nat → TypeId → Option (List Nat)
  | 0, _ => none
  | d + 1, t => match P.underlying t with
    | some .bool => some [1]
    | some (.int _) => some [0]
    | some .string => some [2]
    | some (.array n e) => if (P.info? e).isSome then
        (match flatK P d e with
        | some l => if l.length = P.cellsOf e then some (List.replicate n l).flatten else none
        | none => none) else none
    | some (.struct fs) => if P.stoodInHeld t then none else flatFs P (flatK P d) 0 fs.toList
    | _ => none
theorem cmpK_len : ∀ {ks : List Nat} {a b : List Value} {r : Bool}, cmpK ks a b = some r → a.length = ks.length ∧ b.length = ks.length
  | [], [], [], _, _ => ⟨rfl, rfl⟩
  | [], [], _ :: _, _, h => by simp [cmpK] at h
  | [], _ :: _, _, _, h => by simp [cmpK] at h
  | _ :: _, [], _, _, h => by simp [cmpK] at h
  | _ :: _, _ :: _, [], _, h => by simp [cmpK] at h
  | k :: ks, x :: xs, y :: ys, r, h => by
    simp only [cmpK] at h
    split at h
    · rename_i h2; have := cmpK_len h2; simp [this]
    · cases h
theorem cmpK_split : ∀ {k1 k2 : List Nat} {a b : List Value} {r : Bool}, cmpK (k1 ++ k2) a b = some r → ∃ r1 r2, cmpK k1 (a.take k1.length) (b.take k1.length) = some r1 ∧ cmpK k2 (a.drop k1.length) (b.drop k1.length) = some r2 ∧ r = (r1 && r2)
  | [], k2, a, b, r, h => ⟨true, r, by simp [cmpK], by simpa using h, by simp⟩
  | k :: ks, k2, [], _, r, h => by simp [cmpK] at h
  | k :: ks, k2, _ :: _, [], r, h => by simp [cmpK] at h
  | k :: ks, k2, x :: xs, y :: ys, r, h => by
    simp only [List.cons_append, cmpK] at h
    split at h
    · rename_i r1 r2 h1 h2
      cases h
      obtain ⟨s1, s2, h3, h4, rfl⟩ := cmpK_split h2
      exact ⟨r1 && s1, s2, by simp [cmpK, h1, h3], by simpa using h4, by rw [Bool.and_assoc]⟩
    · cases h
/-- cells of a type, as a value -/
def valOf (P : Program) (t : TypeId) (a : List Value) : Option Value := match aggOf P t with
  | some true => some (.agg ⟨a⟩)
  | some false => a[0]?
  | none => none
theorem apart_val {t : TypeId} {xs a : List Value} {off : Nat} {v : Value} (ha : (xs.drop off).take (P.cellsOf t) = a) (hl : a.length = P.cellsOf t) (h0 : 0 < P.cellsOf t ∨ off ≤ xs.length) (hv : valOf P t a = some v) : apart P t xs off = some v := by
  unfold valOf at hv
  unfold apart
  have hle : off + P.cellsOf t ≤ xs.length := by
    have := congrArg List.length ha
    simp only [List.length_take, List.length_drop] at this
    omega
  split at hv
  · rename_i hg; simp only [hg, if_pos hle, ha]; exact hv
  · rename_i hg
    rw [← ha, List.getElem?_take] at hv
    split at hv
    · rw [List.getElem?_drop] at hv; simp only [hg]; simpa using hv
    · cases hv
  · cases hv
theorem fields_eq {eq : TypeId → Value → Value → Option Bool} {fl : TypeId → Option (List Nat)}
    (ih : ∀ t ks a b r, fl t = some ks → ks.length = P.cellsOf t → cmpK ks a b = some r → ∃ x y, valOf P t a = some x ∧ valOf P t b = some y ∧ eq t x y = some r)
    {xs ys : List Value} : ∀ (fs : List Field) (o : Nat) (ks : List Nat) (r : Bool), o ≤ xs.length → o ≤ ys.length → flatFs P fl o fs = some ks → cmpK ks (xs.drop o) (ys.drop o) = some r → aeqFields P eq xs ys fs = some r
  | [], o, ks, r, _, _, hf, hc => by
    simp only [flatFs, Option.some.injEq] at hf
    subst hf
    have := cmpK_len hc
    have e1 : xs.drop o = [] := List.eq_nil_of_length_eq_zero this.1
    have e2 : ys.drop o = [] := List.eq_nil_of_length_eq_zero this.2
    rw [e1, e2] at hc
    simpa [cmpK, aeqFields] using hc
  | f :: fs, o, ks, r, hox, hoy, hf, hc => by
    simp only [flatFs] at hf
    split at hf
    · cases hf
    · rename_i hn
      simp only [not_or, Decidable.not_not, ne_eq] at hn
      split at hf
      · rename_i a b h1 h2
        split at hf
        · rename_i hl
          cases hf
          obtain ⟨r1, r2, h3, h4, rfl⟩ := cmpK_split hc
          obtain ⟨x, y, hx, hy, he⟩ := ih _ _ _ _ _ h1 hl h3
          have l3 := cmpK_len h3
          have lc := cmpK_len hc
          simp only [List.length_drop, List.length_append] at lc
          have ax : apart P f.type xs f.offset = some x := apart_val (by rw [hn.2, ← hl]) (by rw [l3.1, hl]) (.inr (by omega)) hx
          have ay : apart P f.type ys f.offset = some y := apart_val (by rw [hn.2, ← hl]) (by rw [l3.2, hl]) (.inr (by omega)) hy
          simp only [aeqFields]
          rw [if_neg hn.1, ax, ay]
          simp only [he]
          rw [List.drop_drop, List.drop_drop] at h4
          have := fields_eq (xs := xs) (ys := ys) ih fs (o + P.cellsOf f.type) b r2 (by omega) (by omega) h2 (by rw [← hl]; exact h4)
          cases r1 with
          | true => simpa using this
          | false => simp
        · cases hf
      · cases hf
theorem elems_eq {eq : TypeId → Value → Value → Option Bool} {e : TypeId} {l : List Nat}
    (ih : ∀ a b r, cmpK l a b = some r → ∃ x y, valOf P e a = some x ∧ valOf P e b = some y ∧ eq e x y = some r) (hl : l.length = P.cellsOf e)
    {xs ys : List Value} : ∀ (n j : Nat) (r : Bool), j * P.cellsOf e ≤ xs.length → j * P.cellsOf e ≤ ys.length → cmpK (List.replicate n l).flatten (xs.drop (j * P.cellsOf e)) (ys.drop (j * P.cellsOf e)) = some r → aeqElems P eq e xs ys (List.range' j n) = some r
  | 0, j, r, _, _, hc => by
    have := cmpK_len hc
    simp only [List.replicate_zero, List.flatten_nil, List.length_nil] at this
    have e1 : xs.drop (j * P.cellsOf e) = [] := List.eq_nil_of_length_eq_zero this.1
    have e2 : ys.drop (j * P.cellsOf e) = [] := List.eq_nil_of_length_eq_zero this.2
    rw [e1, e2] at hc
    simpa [cmpK, aeqElems] using hc
  | n + 1, j, r, hx0, hy0, hc => by
    rw [List.replicate_succ, List.flatten_cons] at hc
    obtain ⟨r1, r2, h3, h4, rfl⟩ := cmpK_split hc
    obtain ⟨x, y, hx, hy, he⟩ := ih _ _ _ h3
    have l3 := cmpK_len h3
    have lc := cmpK_len hc
    simp only [List.length_drop, List.length_append] at lc
    have ax : apart P e xs (j * P.cellsOf e) = some x := apart_val (by rw [← hl]) (by rw [l3.1, hl]) (.inr (by omega)) hx
    have ay : apart P e ys (j * P.cellsOf e) = some y := apart_val (by rw [← hl]) (by rw [l3.2, hl]) (.inr (by omega)) hy
    simp only [List.range'_succ, aeqElems, ax, ay, he]
    rw [List.drop_drop, List.drop_drop] at h4
    have e1 : (j + 1) * P.cellsOf e = j * P.cellsOf e + P.cellsOf e := Nat.succ_mul _ _
    have := elems_eq (xs := xs) (ys := ys) ih hl n (j + 1) r2 (by omega) (by omega) (by rw [e1]; rw [hl] at h4; exact h4)
    cases r1 with
    | true => simpa using this
    | false => simp
theorem flat_eq (d : Nat) : ∀ (t : TypeId) (ks : List Nat) (a b : List Value) (r : Bool), flatK P d t = some ks → ks.length = P.cellsOf t → cmpK ks a b = some r →
    ∃ x y, valOf P t a = some x ∧ valOf P t b = some y ∧ aeq P d t x y = some r := by
  induction d with
  | zero => intro t ks a b r h; simp [flatK] at h
  | succ d ih =>
    intro t ks a b r h hk hc
    have one : ∀ k, ks = [k] → ∃ x y, a = [x] ∧ b = [y] ∧ cmp1 k x y = some r := fun k hk => by
      subst hk
      have := cmpK_len hc
      match a, b, this with
      | [x], [y], _ =>
        refine ⟨x, y, rfl, rfl, ?_⟩
        simp only [cmpK] at hc
        split at hc
        · rename_i e1 e2; simp at e2; subst e2; simp at hc; rw [← hc]; exact e1
        · cases hc
    unfold flatK at h
    split at h
    · rename_i hu
      obtain ⟨x, y, rfl, rfl, hx⟩ := one 1 (by simpa using h.symm)
      refine ⟨x, y, by simp [valOf, aggOf, hu], by simp [valOf, aggOf, hu], ?_⟩
      unfold cmp1 at hx
      split at hx
      · rename_i he; cases he
      · cases hx; unfold aeq; simp [hu]
      · rename_i he; cases he
      · cases hx
    · rename_i k hu
      obtain ⟨x, y, rfl, rfl, hx⟩ := one 0 (by simpa using h.symm)
      refine ⟨x, y, by simp [valOf, aggOf, hu], by simp [valOf, aggOf, hu], ?_⟩
      unfold cmp1 at hx
      split at hx
      · split at hx
        · rename_i hkk; subst hkk; cases hx; unfold aeq; simp [hu]
        · cases hx
      · rename_i he; cases he
      · rename_i he; cases he
      · cases hx
    · rename_i hu
      obtain ⟨x, y, rfl, rfl, hx⟩ := one 2 (by simpa using h.symm)
      refine ⟨x, y, by simp [valOf, aggOf, hu], by simp [valOf, aggOf, hu], ?_⟩
      unfold cmp1 at hx
      split at hx
      · rename_i he; cases he
      · rename_i he; cases he
      · cases hx; unfold aeq; simp [hu]
      · cases hx
    · rename_i n e hu
      split at h
      · rename_i hi
        split at h
        · rename_i l hl
          split at h
          · rename_i hle
            cases h
            refine ⟨.agg ⟨a⟩, .agg ⟨b⟩, by simp [valOf, aggOf, hu], by simp [valOf, aggOf, hu], ?_⟩
            unfold aeq
            simp only [hu, hi, if_true]
            rw [List.range_eq_range']
            exact elems_eq (fun a b r hc => ih e l a b r hl hle hc) hle n 0 r (by simp) (by simp) (by simpa using hc)
          · cases h
        · cases h
      · cases h
    · rename_i fs hu
      split at h
      · cases h
      · rename_i hs
        refine ⟨.agg ⟨a⟩, .agg ⟨b⟩, by simp [valOf, aggOf, hu], by simp [valOf, aggOf, hu], ?_⟩
        unfold aeq
        simp only [hu, hs, Bool.false_eq_true, if_false]
        exact fields_eq (fun t ks a b r h1 h2 h3 => ih t ks a b r h1 h2 h3) fs.toList 0 ks r (by simp) (by simp) h (by simpa using hc)
    · cases h

/-! ### Comparing, by kinds of types -/
def eqn (op : BinOp) (r : Bool) : Option Value := match op with
  | .eql => some (.bool r)
  | .neq => some (.bool !r)
  | _ => none
def biI (op : BinOp) (a b : Value) : Option Value := match a, b with
  | .int k m, .int k' n => if k = k' then aint op k m n else ashift op k m n
  | _, _ => none
def biT (op : BinOp) (a b : Value) : Option Value := match a, b with
  | .string m, .string n => astr op m n
  | _, _ => none
def biB (op : BinOp) (a b : Value) : Option Value := match a, b with
  | .bool m, .bool n => eqn op (m == n)
  | _, _ => none
def biP (op : BinOp) (a b : Value) : Option Value := match a, b with
  | .pointer none, .pointer b => eqn op b.isNone
  | .pointer (some _), .pointer none => eqn op false
  | _, _ => none
def biS (op : BinOp) (a b : Value) : Option Value := match a, b with
  | .slice none _ _, .slice b _ _ => eqn op b.isNone
  | .slice (some _) _ _, .slice none _ _ => eqn op false
  | _, _ => none
def biF (op : BinOp) (a b : Value) : Option Value := match a, b with
  | .nilFunc, .nilFunc => eqn op true
  | .nilFunc, .func _ _ _ => eqn op false
  | .func _ _ _, .nilFunc => eqn op false
  | _, _ => none
def biE (c : Bool) (op : BinOp) (a b : Value) : Option Value := match a, b with
  | .nilIface, .nilIface => if c then eqn op true else none
  | .nilIface, .iface _ _ => eqn op false
  | .iface _ _, .nilIface => eqn op false
  | _, _ => none
def biA (ks : List Nat) (op : BinOp) (a b : Value) : Option Value := match a, b with
  | .agg xs, .agg ys => (cmpK ks xs.toList ys.toList).bind (eqn op)
  | _, _ => none
/-- the kinds of the cells, where '==' looks at them alone -/
def eqKinds (P : Program) (t : TypeId) : Option (List Nat) := match flatK P 10000 t with
  | some ks => if ks.length = P.cellsOf t ∧ aggOf P t = some true ∧ P.eqGuardType P.depth t = false then some ks else none
  | none => none
def wpBin (P : Program) (op : BinOp) (t : TypeId) (x y : Operand) (a b : Value) (q : Value → Prop) (thn : Option Value → (Value → Prop) → Prop) : Prop :=
  match P.underlying t with
  | some (.int _) => thn (biI op a b) q
  | some .string => thn (biT op a b) q
  | some .bool => thn (biB op a b) q
  | some (.pointer _) => thn (biP op a b) q
  | some (.slice _) => thn (biS op a b) q
  | some (.func _ _ _) => thn (biF op a b) q
  | some (.interface _) => thn (biE (isConst x || isConst y) op a b) q
  | some (.struct _) => (match eqKinds P t with
    | some ks => thn (biA ks op a b) q
    | none => False)
  | some (.array _ _) => (match eqKinds P t with
    | some ks => thn (biA ks op a b) q
    | none => False)
  | _ => False
theorem abin_eqn {op : BinOp} {t : TypeId} {x y : Operand} {a b v : Value} {r : Bool} (hi : ∀ k m k' n, ¬ (a = .int k m ∧ b = .int k' n)) (hs : ∀ m n, ¬ (a = .string m ∧ b = .string n)) (he : eqn op r = some v) (hk : eqAsk P t x y a b = true) (hq : aeq P 10000 t a b = some r) :
    abin P op t x y a b = some v := by
  unfold abin
  split
  · exact absurd ⟨rfl, rfl⟩ (hi _ _ _ _)
  · exact absurd ⟨rfl, rfl⟩ (hs _ _)
  · unfold eqn at he
    split at he
    · cases he; simp [hk, hq]
    · cases he; simp [hk, hq]
    · cases he
theorem aeq_succ {t : TypeId} {a b : Value} {r : Bool} (h : aeq P (9999 + 1) t a b = some r) : aeq P 10000 t a b = some r := h
theorem wpBin_sound {op : BinOp} {t : TypeId} {x y : Operand} {a b : Value} {q : Value → Prop} (hw : wpBin P op t x y a b q fun o p => ∃ v, o = some v ∧ p v) : ∃ v, abin P op t x y a b = some v ∧ q v := by
  unfold wpBin at hw
  split at hw
  · obtain ⟨v, h1, h2⟩ := hw
    refine ⟨v, ?_, h2⟩
    unfold biI at h1
    split at h1
    · simp only [abin]; exact h1
    · cases h1
  · obtain ⟨v, h1, h2⟩ := hw
    refine ⟨v, ?_, h2⟩
    unfold biT at h1
    split at h1
    · simp only [abin]; exact h1
    · cases h1
  · rename_i hu
    obtain ⟨v, h1, h2⟩ := hw
    refine ⟨v, ?_, h2⟩
    unfold biB at h1
    split at h1
    · exact abin_eqn (fun _ _ _ _ h => by cases h.1) (fun _ _ h => by cases h.1) h1 rfl (aeq_succ (by unfold aeq; simp [hu]))
    · cases h1
  · rename_i hu
    obtain ⟨v, h1, h2⟩ := hw
    refine ⟨v, ?_, h2⟩
    unfold biP at h1
    split at h1
    · exact abin_eqn (fun _ _ _ _ h => by cases h.1) (fun _ _ h => by cases h.1) h1 rfl (aeq_succ (by unfold aeq; simp [hu]))
    · exact abin_eqn (fun _ _ _ _ h => by cases h.1) (fun _ _ h => by cases h.1) h1 rfl (aeq_succ (by unfold aeq; simp [hu]))
    · cases h1
  · rename_i hu
    obtain ⟨v, h1, h2⟩ := hw
    refine ⟨v, ?_, h2⟩
    unfold biS at h1
    split at h1
    · exact abin_eqn (fun _ _ _ _ h => by cases h.1) (fun _ _ h => by cases h.1) h1 rfl (aeq_succ (by unfold aeq; simp [hu]))
    · exact abin_eqn (fun _ _ _ _ h => by cases h.1) (fun _ _ h => by cases h.1) h1 rfl (aeq_succ (by unfold aeq; simp [hu]))
    · cases h1
  · rename_i hu
    obtain ⟨v, h1, h2⟩ := hw
    refine ⟨v, ?_, h2⟩
    unfold biF at h1
    split at h1
    · exact abin_eqn (fun _ _ _ _ h => by cases h.1) (fun _ _ h => by cases h.1) h1 rfl (aeq_succ (by unfold aeq; simp [hu]))
    · exact abin_eqn (fun _ _ _ _ h => by cases h.1) (fun _ _ h => by cases h.1) h1 rfl (aeq_succ (by unfold aeq; simp [hu]))
    · exact abin_eqn (fun _ _ _ _ h => by cases h.1) (fun _ _ h => by cases h.1) h1 rfl (aeq_succ (by unfold aeq; simp [hu]))
    · cases h1
  · rename_i hu
    obtain ⟨v, h1, h2⟩ := hw
    refine ⟨v, ?_, h2⟩
    unfold biE at h1
    split at h1
    · split at h1
      · rename_i hc
        exact abin_eqn (fun _ _ _ _ h => by cases h.1) (fun _ _ h => by cases h.1) h1 (by simpa [eqAsk] using hc) (aeq_succ (by unfold aeq; simp [hu]))
      · cases h1
    · exact abin_eqn (fun _ _ _ _ h => by cases h.1) (fun _ _ h => by cases h.1) h1 rfl (aeq_succ (by unfold aeq; simp [hu]))
    · exact abin_eqn (fun _ _ _ _ h => by cases h.1) (fun _ _ h => by cases h.1) h1 rfl (aeq_succ (by unfold aeq; simp [hu]))
    · cases h1
  all_goals
    first
      | cases hw
      | split at hw
        · rename_i ks hks
          obtain ⟨v, h1, h2⟩ := hw
          refine ⟨v, ?_, h2⟩
          unfold biA at h1
          split at h1
          · rename_i xs ys
            simp only [Option.bind_eq_some_iff] at h1
            obtain ⟨r, hr, he⟩ := h1
            unfold eqKinds at hks
            split at hks
            · rename_i ks' hk'
              split at hks
              · rename_i hc
                cases hks
                obtain ⟨x', y', hx', hy', hq⟩ := flat_eq 10000 t _ _ _ _ hk' hc.1 hr
                simp only [valOf, hc.2.1, Option.some.injEq] at hx' hy'
                have e1 : x' = .agg xs := hx'.symm
                have e2 : y' = .agg ys := hy'.symm
                subst e1; subst e2
                exact abin_eqn (fun _ _ _ _ h => by cases h.1) (fun _ _ h => by cases h.1) he (by simp [eqAsk, hc.2.2]) hq
              · cases hks
            · cases hks
          · cases h1
        · cases hw

end
end Go.Ab
end
section
namespace Go.Ab
noncomputable section
variable {P : Program} {K : FuncId → List Value → Option Ans}

def Ok (P : Program) (K : FuncId → List Value → Option Ans) (t : Task) (h : AH) (Q : Out → AH → Prop) : Prop := ∃ n r, run P K n t h = some r ∧ Q r.1 r.2
def thn {α : Type} (o : Option α) (p : α → Prop) : Prop := ∃ v, o = some v ∧ p v
def Br (v : Value) (p q : Prop) : Prop := ∃ b, v = .bool b ∧ (b = true → p) ∧ (b = false → q)

theorem Ok.mono {t : Task} {h : AH} {Q Q' : Out → AH → Prop} (k : Ok P K t h Q) (hq : ∀ o h', Q o h' → Q' o h') : Ok P K t h Q' :=
  let ⟨n, r, h1, h2⟩ := k; ⟨n, r, h1, hq _ _ h2⟩
theorem Ok.of {t : Task} {h : AH} {Q : Out → AH → Prop} {n : Nat} {o : Out} {h' : AH} (hr : run P K n t h = some (o, h')) (hq : Q o h') : Ok P K t h Q := ⟨n, (o, h'), hr, hq⟩
@[simp] theorem thn_some {α : Type} {v : α} {p : α → Prop} : thn (some v) p ↔ p v := ⟨fun ⟨_, h, k⟩ => by cases h; exact k, fun k => ⟨v, rfl, k⟩⟩
@[simp] theorem thn_none {α : Type} {p : α → Prop} : thn none p ↔ False := ⟨fun ⟨_, h, _⟩ => (nomatch h), False.elim⟩
theorem thn_of {α : Type} {o : Option α} {v : α} {p : α → Prop} (h : o = some v) (k : p v) : thn o p := ⟨v, h, k⟩
@[congr] theorem thn_congr {α : Type} {o o' : Option α} {p : α → Prop} (h : o = o') : thn o p ↔ thn o' p := by rw [h]
theorem thn.mono {α : Type} {o : Option α} {p p' : α → Prop} (h : thn o p) (k : ∀ v, p v → p' v) : thn o p' := let ⟨v, a, b⟩ := h; ⟨v, a, k v b⟩
@[simp] theorem Br_true {p q : Prop} : Br (.bool true) p q ↔ p := ⟨fun ⟨b, h, k, _⟩ => by cases h; exact k rfl, fun k => ⟨true, rfl, fun _ => k, by simp⟩⟩
@[simp] theorem Br_false {p q : Prop} : Br (.bool false) p q ↔ q := ⟨fun ⟨b, h, _, k⟩ => by cases h; exact k rfl, fun k => ⟨false, rfl, by simp, fun _ => k⟩⟩
theorem Br_bool {b : Bool} {p q : Prop} : Br (.bool b) p q ↔ (b = true → p) ∧ (b = false → q) := ⟨fun ⟨b, h, k⟩ => by cases h; exact k, fun k => ⟨b, rfl, k⟩⟩
theorem Br_bool' {b : Bool} {p q : Prop} (hp : b = true → p) (hq : b = false → q) : Br (.bool b) p q := ⟨b, rfl, hp, hq⟩
@[congr] theorem Br_congr {v v' : Value} {p q : Prop} (h : v = v') : Br v p q ↔ Br v' p q := by rw [h]

/-! ### The operations, their types looked up -/
def pickV (c a b : Value) : Option Value := match c with
  | .bool t => some (if t then a else b)
  | _ => none
def ld1 (h : AH) (p : Value) : Option Value := match p with
  | .pointer (some a) => if a.spot.isSome then none else
    (match h.get a.block with
    | some (.cells c _ _ _) => c[a.off]?
    | _ => none)
  | _ => none
def ldN (h : AH) (n : Nat) (p : Value) : Option Value := match p with
  | .pointer (some a) => (loadCellsAt h a n).map fun l => .agg ⟨l⟩
  | _ => none
def nilV (p : Value) : Option Value := match p with
  | .pointer (some a) => some (.pointer (some a))
  | .func (.func f) a b => some (.func (.func f) a b)
  | .func (.yield f) a b => some (.func (.yield f) a b)
  | _ => none
def unV (op : UnOp) (x : Value) : Option Value := match op, x with
  | .neg, .int k n => some (.int k (k.wrap (0 - n)))
  | .not, .bool b => some (.bool !b)
  | _, _ => none
def convI (k : IntKind) (x : Value) : Option Value := match x with
  | .int _ n => some (.int k (k.wrap n))
  | _ => none
def convS (x : Value) : Option Value := match x with
  | .string z => some (.string z)
  | _ => none
def padd (n : Nat) (p : Value) : Option Value := match p with
  | .pointer (some a) => some (.pointer (some (a.add n)))
  | _ => none
def part1 (off : Nat) (x : Value) : Option Value := match x with
  | .agg cs => cs.toList[off]?
  | _ => none
def partN (off n : Nat) (x : Value) : Option Value := match x with
  | .agg cs => if off + n ≤ cs.toList.length then some (.agg ⟨(cs.toList.drop off).take n⟩) else none
  | _ => none
def idxA (n sz : Nat) (x i : Value) : Option Value := match x, i with
  | .pointer (some a), .int _ i => if 0 ≤ i ∧ i < n then some (.pointer (some (a.add (i.toNat * sz)))) else none
  | _, _ => none
def idxS (sz : Nat) (x i : Value) : Option Value := match x, i with
  | .slice (some a) n _, .int _ i => if 0 ≤ i ∧ i < n ∧ a.spot = none then some (.pointer (some (a.add (i.toNat * sz)))) else none
  | _, _ => none
def at1 (n sz : Nat) (x i : Value) : Option Value := match x, i with
  | .agg cs, .int _ i => if 0 ≤ i ∧ i < n then cs.toList[i.toNat * sz]? else none
  | _, _ => none
def atN (n sz : Nat) (x i : Value) : Option Value := match x, i with
  | .agg cs, .int _ i => if 0 ≤ i ∧ i < n ∧ i.toNat * sz + sz ≤ cs.toList.length then some (.agg ⟨(cs.toList.drop (i.toNat * sz)).take sz⟩) else none
  | _, _ => none
def atS (x i : Value) : Option Value := match x, i with
  | .string s, .int _ i => if 0 ≤ i then (s[i.toNat]?).map fun b => .int .u8 b.toNat else none
  | _, _ => none
def extV (i : Nat) (t : Value) : Option Value := match t with
  | .tuple vs => vs.toList[i]?
  | _ => none
def stV (h : AH) (n : Nat) (p v : Value) : Option AH := match p with
  | .pointer (some a) => (match cellsOfV v with
    | some vs => if vs.length = n then storeCellsAt h a vs else none
    | none => none)
  | _ => none
def blkOf (e : TypeId) (v : Value) : Option Blk := (cellsOfV v).map fun l => .cells l e (0, 0) true
def mkS (bytes : Nat) (l c : Value) : Option (Nat × Nat) := match l, c with
  | .int _ l, .int _ c => if 0 ≤ l ∧ l ≤ c ∧ c ≤ 2 ^ 40 ∧ bytes * c ≤ 2 ^ 47 then some (l.toNat, c.toNat) else none
  | _, _ => none
/-- parts laid over cells: where, how many, what -/
def fillL (cells : List Value) : List (Nat × Nat × Value) → Option (List Value)
  | [] => some cells
  | (off, size, v) :: rest => match cellsOfV v with
    | some vs => if vs.length = size ∧ off + vs.length ≤ cells.length then fillL (splice cells off vs) rest else none
    | none => none
def partsL (place : Nat → Option (Nat × Nat)) (ev : Operand → Value) : List (Nat × Operand) → Option (List (Nat × Nat × Value))
  | [] => some []
  | (i, x) :: rest => match place i, partsL place ev rest with
    | some (off, size), some l => some ((off, size, ev x) :: l)
    | _, _ => none
theorem fillL_eq {place : Nat → Option (Nat × Nat)} {ev : Operand → Value} : ∀ {parts : List (Nat × Operand)} {l : List (Nat × Nat × Value)} {cells : List Value}, partsL place ev parts = some l → afill place cells (parts.map fun p => (p.1, ev p.2)) = fillL cells l
  | [], l, cells, h => by simp only [partsL, Option.some.injEq] at h; subst h; rfl
  | (i, x) :: rest, l, cells, h => by
    simp only [partsL] at h
    split at h
    · rename_i off size l' h1 h2
      cases h
      simp only [List.map_cons, afill, fillL, h1]
      cases hc : cellsOfV (ev x) with
      | none => rfl
      | some vs =>
        simp only
        split
        · exact fillL_eq h2
        · rfl
    · cases h
def slS (sz : Nat) (h : AH) (x : Value) (lo hi mx : Option Value) : Option Value := match x with
  | .slice none len cap =>
    match bnd mx cap cap with
    | some m => match (if hi.isNone && mx.isSome then none else bnd hi len m) with
      | some hh => match bnd lo 0 hh with
        | some l => some (.slice none (hh - l) (m - l))
        | none => none
      | none => none
    | none => none
  | .slice (some a) len cap =>
    match bnd mx cap cap with
    | some m => match (if hi.isNone && mx.isSome then none else bnd hi len m) with
      | some hh => match bnd lo 0 hh with
        | some l =>
          if a.spot.isSome then (if len = 0 ∧ cap = 0 then some (if mx.isSome then empty0 else any0) else none) else
          if hh ≤ m then
            (if m = l then
              if mx.isSome then some empty0 else
              match exactAt h a.block with
              | some true => some empty0
              | some false => some (dangling (a.add (l * sz)))
              | none => none
            else some (.slice (some (a.add (l * sz))) (hh - l) (m - l)))
          else none
        | none => none
      | none => none
    | none => none
  | _ => none
def slA (n sz : Nat) (x : Value) (lo hi mx : Option Value) : Option Value := match x with
  | .pointer (some a) =>
    match bnd mx n n with
    | some m => match (if hi.isNone && mx.isSome then none else bnd hi n m) with
      | some hh => match bnd lo 0 hh with
        | some l => if a.spot = none then some (.slice (some (if m = l then a else a.add (l * sz))) (hh - l) (m - l)) else none
        | none => none
      | none => none
    | none => none
  | _ => none
def slT (x : Value) (lo hi : Option Value) : Option Value := match x with
  | .string s =>
    match bnd hi s.size s.size with
    | some hh => match bnd lo 0 hh with
      | some l => some (.string (s.extract l hh))
      | none => none
    | none => none
  | _ => none
/-- a function that is called -/
def OkF (P : Program) (K : FuncId → List Value → Option Ans) (f : Value) (args : List Value) (h : AH) (Q : Value → AH → Prop) : Prop := match f with
  | .func (.func g) first captured => callable P g = true ∧ Ok P K (.call g (first.toList ++ args ++ captured.toList)) h fun o h' => Q o.v h'
  | .func (.yield l) first _ => Ok P K (.round l (first.toList ++ args)) h fun o h' => Q o.v h'
  | _ => False

def wpLight (P : Program) (ev : Operand → Value) (h : AH) (q : Value → Prop) : Op → Prop
  | .move x => q (ev x)
  | .assign x => q (ev x)
  | .pick c a b => thn (pickV (ev c) (ev a) (ev b)) q
  | .build t parts => match zeroOf P t with
    | some z => (match P.underlying t with
      | some (.struct fs) => if fs.all (fun f => (P.info? f.type).isSome) then (match partsL (fun i => (fs[i]?).map fun f => (f.offset, P.cellsOf f.type)) ev parts.toList with
        | some l => thn (fillL z l) fun c => q (.agg ⟨c⟩)
        | none => False) else False
      | some (.array _ e) => if (P.info? e).isSome then (match partsL (fun i => some (i * P.cellsOf e, P.cellsOf e)) ev parts.toList with
        | some l => thn (fillL z l) fun c => q (.agg ⟨c⟩)
        | none => False) else False
      | _ => False)
    | none => False
  | .load t a => match aggOf P t with
    | some true => thn (ldN h (P.cellsOf t) (ev a)) q
    | some false => thn (ld1 h (ev a)) q
    | none => False
  | .nilCheck x => thn (nilV (ev x)) q
  | .binOp op t x y _ => wpBin P op t x y (ev x) (ev y) q thn
  | .unOp op _ x => thn (unV op (ev x)) q
  | .convert s d x => match P.underlying s with
    | some .string => (match P.underlying d with
      | some (.int k) => thn (convI k (ev x)) q
      | some .string => thn (convS (ev x)) q
      | _ => False)
    | some (.slice e) => (match P.underlying d with
      | some .string => (match P.underlying e with
        | some (.int .u8) => thn (strOf h (ev x)) q
        | _ => False)
      | _ => False)
    | some _ => (match P.underlying d with
      | some (.int k) => thn (convI k (ev x)) q
      | _ => False)
    | none => False
  | .makeInterface t x => match P.underlying t with
    | some (.interface _) => False
    | some _ => q (.iface t (ev x))
    | none => False
  | .makeFunc fn first captured => match fn with
    | .func f => q (.func (.func f) (first.map ev) (captured.map ev))
    | _ => False
  | .slice t x lo hi mx => match P.underlying t with
    | some (.slice e) => if (P.info? e).isSome then thn (slS (P.cellsOf e) h (ev x) (lo.map ev) (hi.map ev) (mx.map ev)) q else False
    | some (.array n e) => if (P.info? e).isSome then thn (slA n (P.cellsOf e) (ev x) (lo.map ev) (hi.map ev) (mx.map ev)) q else False
    | some .string => (match mx with
      | none => thn (slT (ev x) (lo.map ev) (hi.map ev)) q
      | some _ => False)
    | _ => False
  | .fieldAddr s x f => match P.underlying s with
    | some (.struct fs) => (match fs[f]? with
      | some fd => if P.cellsOf fd.type = 0 then False else thn (padd fd.offset (ev x)) q
      | none => False)
    | _ => False
  | .field t x f => match P.underlying t with
    | some (.struct fs) => (match fs[f]? with
      | some fd => (match aggOf P fd.type with
        | some true => thn (partN fd.offset (P.cellsOf fd.type) (ev x)) q
        | some false => thn (part1 fd.offset (ev x)) q
        | none => False)
      | none => False)
    | _ => False
  | .indexAddr t x i => match P.underlying t with
    | some (.array n e) => if (P.info? e).isSome then thn (idxA n (P.cellsOf e) (ev x) (ev i)) q else False
    | some (.slice e) => if (P.info? e).isSome then thn (idxS (P.cellsOf e) (ev x) (ev i)) q else False
    | _ => False
  | .index t x i => match P.underlying t with
    | some (.array n e) => if (P.info? e).isSome then (match aggOf P e with
      | some true => thn (atN n (P.cellsOf e) (ev x) (ev i)) q
      | some false => thn (at1 n (P.cellsOf e) (ev x) (ev i)) q
      | none => False) else False
    | some .string => thn (atS (ev x) (ev i)) q
    | _ => False
  | .extract t i => thn (extV i (ev t)) q
  | _ => False

theorem wpLight_sound {ev : Operand → Value} {h : AH} {q : Value → Prop} {op : Op} (hw : wpLight P ev h q op) : kindOf op = .light ∧ ∃ v, alight P ev h op = some v ∧ q v := by
  unfold wpLight at hw
  split at hw
  · exact ⟨rfl, _, rfl, hw⟩
  · exact ⟨rfl, _, rfl, hw⟩
  · obtain ⟨v, h1, h2⟩ := hw; exact ⟨rfl, v, h1, h2⟩
  · refine ⟨rfl, ?_⟩
    split at hw
    · rename_i z hz
      split at hw
      · rename_i fs hu
        split at hw
        · rename_i hall
          split at hw
          · rename_i l hl
            obtain ⟨c, h1, h2⟩ := hw
            refine ⟨_, ?_, h2⟩
            simp only [alight, abuild, hz, hu, hall, if_true]
            rw [fillL_eq hl, h1]; rfl
          · cases hw
        · cases hw
      · rename_i e hu
        split at hw
        · rename_i hall
          split at hw
          · rename_i l hl
            obtain ⟨c, h1, h2⟩ := hw
            refine ⟨_, ?_, h2⟩
            simp only [alight, abuild, hz, hu, hall, if_true]
            rw [fillL_eq hl, h1]; rfl
          · cases hw
        · cases hw
      · cases hw
    · cases hw
  · refine ⟨rfl, ?_⟩
    split at hw
    · rename_i ha
      obtain ⟨v, h1, h2⟩ := hw
      refine ⟨v, ?_, h2⟩
      unfold ldN at h1
      simp only [alight]
      split at h1
      · rename_i he; rw [he]; simp only [aload, ha]; exact h1
      · cases h1
    · rename_i ha
      obtain ⟨v, h1, h2⟩ := hw
      refine ⟨v, ?_, h2⟩
      unfold ld1 at h1
      simp only [alight]
      split at h1
      · rename_i he; rw [he]; simp only [aload, ha]; exact h1
      · cases h1
    · cases hw
  · obtain ⟨v, h1, h2⟩ := hw; exact ⟨rfl, v, h1, h2⟩
  · obtain ⟨v, h1, h2⟩ := wpBin_sound hw; exact ⟨rfl, v, h1, h2⟩
  · obtain ⟨v, h1, h2⟩ := hw; exact ⟨rfl, v, h1, h2⟩
  · refine ⟨rfl, ?_⟩
    split at hw
    · rename_i hs
      split at hw
      · rename_i hd
        obtain ⟨v, h1, h2⟩ := hw
        refine ⟨v, ?_, h2⟩
        unfold convI at h1
        split at h1
        · rename_i he; simp only [alight, hs, hd, he]; exact h1
        · cases h1
      · rename_i hd
        obtain ⟨v, h1, h2⟩ := hw
        refine ⟨v, ?_, h2⟩
        unfold convS at h1
        split at h1
        · rename_i he; simp only [alight, hs, hd, he]; exact h1
        · cases h1
      · cases hw
    · rename_i hs
      split at hw
      · rename_i hd
        split at hw
        · rename_i he
          obtain ⟨v, h1, h2⟩ := hw
          refine ⟨v, ?_, h2⟩
          simp only [alight, hs, hd, he]
          exact h1
        · cases hw
      · cases hw
    · rename_i hs
      split at hw
      · rename_i hd
        obtain ⟨v, h1, h2⟩ := hw
        refine ⟨v, ?_, h2⟩
        unfold convI at h1
        split at h1
        · rename_i he; simp only [alight, hs, hd, he]; exact h1
        · cases h1
      · cases hw
    · cases hw
  · refine ⟨rfl, ?_⟩
    split at hw
    · cases hw
    · rename_i t x d hn hs
      refine ⟨_, ?_, hw⟩
      simp only [alight]
      split
      · rename_i h2; rw [hs] at h2; cases h2; exact absurd rfl (hn _)
      · rfl
      · rename_i h2; rw [hs] at h2; cases h2
    · cases hw
  · split at hw
    · exact ⟨rfl, _, rfl, hw⟩
    · cases hw
  · refine ⟨rfl, ?_⟩
    split at hw
    · rename_i hu
      split at hw
      · rename_i hi
        obtain ⟨v, h1, h2⟩ := hw
        refine ⟨v, ?_, h2⟩
        unfold slS at h1
        split at h1
        · rename_i hx; simp only [alight, hx, aslice, hu, hi, if_true]; exact h1
        · rename_i hx; simp only [alight, hx, aslice, hu, hi, true_and]; exact h1
        · cases h1
      · cases hw
    · rename_i hu
      split at hw
      · rename_i hi
        obtain ⟨v, h1, h2⟩ := hw
        refine ⟨v, ?_, h2⟩
        unfold slA at h1
        split at h1
        · rename_i hx; simp only [alight, hx, aslice, hu, hi, true_and]; exact h1
        · cases h1
      · cases hw
    · rename_i hu
      split at hw
      · obtain ⟨v, h1, h2⟩ := hw
        refine ⟨v, ?_, h2⟩
        unfold slT at h1
        split at h1
        · rename_i hx; simp only [alight, hx, aslice, hu, Option.map_none, Option.isSome_none, Bool.false_eq_true, if_false]; exact h1
        · cases h1
      · cases hw
    · cases hw
  · refine ⟨rfl, ?_⟩
    split at hw
    · rename_i hs
      split at hw
      · rename_i hf
        split at hw
        · cases hw
        · rename_i hc
          obtain ⟨v, h1, h2⟩ := hw
          refine ⟨v, ?_, h2⟩
          unfold padd at h1
          split at h1
          · rename_i he; simp only [alight, hs, he, hf, hc, if_false]; exact h1
          · cases h1
      · cases hw
    · cases hw
  · refine ⟨rfl, ?_⟩
    split at hw
    · rename_i hs
      split at hw
      · rename_i hf
        split at hw
        · rename_i ha
          obtain ⟨v, h1, h2⟩ := hw
          refine ⟨v, ?_, h2⟩
          unfold partN at h1
          split at h1
          · rename_i he; simp only [alight, hs, he, hf, apart, ha]; exact h1
          · cases h1
        · rename_i ha
          obtain ⟨v, h1, h2⟩ := hw
          refine ⟨v, ?_, h2⟩
          unfold part1 at h1
          split at h1
          · rename_i he; simp only [alight, hs, he, hf, apart, ha]; exact h1
          · cases h1
        · cases hw
      · cases hw
    · cases hw
  · refine ⟨rfl, ?_⟩
    split at hw
    · rename_i hs
      split at hw
      · rename_i hinf
        obtain ⟨v, h1, h2⟩ := hw
        refine ⟨v, ?_, h2⟩
        unfold idxA at h1
        split at h1
        · rename_i he he2
          split at h1
          · rename_i hc
            simp only [alight, hs, he, he2, hc, hinf, and_self, if_true]; exact h1
          · cases h1
        · cases h1
      · cases hw
    · rename_i hs
      split at hw
      · rename_i hinf
        obtain ⟨v, h1, h2⟩ := hw
        refine ⟨v, ?_, h2⟩
        unfold idxS at h1
        split at h1
        · rename_i he he2
          split at h1
          · rename_i hc
            simp only [alight, hs, he, he2, hc, hinf, and_self, if_true]; exact h1
          · cases h1
        · cases h1
      · cases hw
    · cases hw
  · refine ⟨rfl, ?_⟩
    split at hw
    · rename_i hs
      split at hw
      · rename_i hinf
        split at hw
        · rename_i ha
          obtain ⟨v, h1, h2⟩ := hw
          refine ⟨v, ?_, h2⟩
          unfold atN at h1
          split at h1
          · rename_i he he2
            split at h1
            · rename_i hc
              have hc1 := hc.1
              have hc2 := hc.2.1
              have hc3 := hc.2.2
              simp only [alight, hs, he, he2, hc1, hc2, hinf, and_self, if_true, apart, ha, hc3]; exact h1
            · cases h1
          · cases h1
        · rename_i ha
          obtain ⟨v, h1, h2⟩ := hw
          refine ⟨v, ?_, h2⟩
          unfold at1 at h1
          split at h1
          · rename_i he he2
            split at h1
            · rename_i hc
              simp only [alight, hs, he, he2, hc, hinf, and_self, if_true, apart, ha]; exact h1
            · cases h1
          · cases h1
        · cases hw
      · cases hw
    · rename_i hs
      obtain ⟨v, h1, h2⟩ := hw
      refine ⟨v, ?_, h2⟩
      unfold atS at h1
      split at h1
      · rename_i he he2; simp only [alight, hs, he, he2]; exact h1
      · cases h1
    · cases hw
  · obtain ⟨v, h1, h2⟩ := hw; exact ⟨rfl, v, h1, h2⟩
  · cases hw

end
end Go.Ab
end
section
namespace Go.Ab
noncomputable section
variable {P : Program} {K : FuncId → List Value → Option Ans}

def lenT (x : Value) : Option Value := match x with
  | .string s => some (.int .i64 s.size)
  | _ => none
def lenS (x : Value) : Option Value := match x with
  | .slice _ n _ => some (.int .i64 n)
  | _ => none
def minV (x y : Value) : Option Value := match x, y with
  | .int k x, .int _ y => some (.int k (if y < x then y else x))
  | _, _ => none
def maxV (x y : Value) : Option Value := match x, y with
  | .int k x, .int _ y => some (.int k (if y > x then y else x))
  | _, _ => none
def appV (sz bytes : Nat) (e : TypeId) (h : AH) (s x : Value) : Option (Value × AH) :=
  match s, lenOfV x with
  | .slice base sLen sCap, some n =>
    match srcCells h sz n x with
    | some new =>
      if !new.all cellB || new.length != n * sz then none else
      if sLen + n ≤ sCap then
        match base with
        | none => if n = 0 then some (s, h) else none
        | some a => if n = 0 then some (s, h) else if a.spot.isSome then none else
          (storeCellsAt h (a.add (sLen * sz)) new).map fun h' => (.slice base (sLen + n) sCap, h')
      else if (sLen + n) * (bytes + 1) ≤ 2 ^ 46 then
        match base with
        | none => if sLen = 0 then some (.slice (some ⟨h.next, 0, none⟩) n n, h.alloc (.cells new e (0, 0) false)) else none
        | some a =>
          if a.spot = some 1 then (if sLen = 0 then some (.slice (some ⟨h.next, 0, none⟩) n n, h.alloc (.cells new e (0, 0) false)) else none) else
          if a.spot = some 2 then
            (match h.get a.block with
            | some (.cells c e' fz _) =>
              if e' = e ∧ h.base ≤ a.block ∧ fz = (0, 0) ∧ a.off ≤ c.length ∧ sLen = 0 ∧ sCap = 0 then
                some (.slice (some ⟨h.next, 0, none⟩) n n, (h.set a.block none).alloc (.cells new e (0, 0) false))
              else none
            | _ => none) else
          match loadCellsAt h a (sLen * sz), h.get a.block with
          | some old, some (.cells c e' fz x) =>
            if !old.all cellB then none else
            if x then some (.slice (some ⟨h.next, 0, none⟩) (sLen + n) (sLen + n), h.alloc (.cells (old ++ new) e (0, 0) false))
            else if e' = e ∧ h.base ≤ a.block ∧ fz = (0, 0) ∧ a.off + sCap * sz ≤ c.length then
              some (.slice (some ⟨h.next, 0, none⟩) (sLen + n) (sLen + n), (h.set a.block none).alloc (.cells (old ++ new) e (0, 0) false))
            else none
          | _, _ => none
      else none
    | _ => none
  | _, _ => none
def copyV (sz : Nat) (h : AH) (d x : Value) : Option (Value × AH) :=
  match d, lenOfV x with
  | .slice base dLen _, some m =>
      match srcCells h sz (Nat.min m dLen) x with
      | some new => match base with
        | none => some (.int .i64 (Nat.min m dLen : Nat), h)
        | some a => if Nat.min m dLen = 0 then some (.int .i64 0, h) else (storeCellsAt h a new).map fun h' => (.int .i64 (Nat.min m dLen : Nat), h')
      | none => none
  | _, _ => none
def clearV (z : List Value) (h : AH) (x : Value) : Option (Value × AH) :=
  match x with
  | .slice none _ _ => some (.tuple #[], h)
  | .slice (some a) n _ =>
      if n = 0 then some (.tuple #[], h) else (storeCellsAt h a (zerosA z n)).map fun h' => (.tuple #[], h')
  | _ => none

def wpBuiltin (P : Program) (h : AH) (q : Value → AH → Prop) (argTypes : Array TypeId) : Builtin → List Value → Prop
  | .len, [x] => match (argTypes[0]?).bind P.underlying with
    | some .string => thn (lenT x) fun v => q v h
    | some (.slice _) => thn (lenS x) fun v => q v h
    | some (.array n _) => q (.int .i64 n) h
    | some (.pointer e) => (match P.underlying e with
      | some (.array n _) => q (.int .i64 n) h
      | _ => False)
    | _ => False
  | .append, [s, x] => match (argTypes[0]?).bind P.underlying with
    | some (.slice e) => if srcKind P argTypes ∧ (zeroOf P e).isSome then thn (appV (P.cellsOf e) (P.bytesOf e) e h s x) fun r => q r.1 r.2 else False
    | _ => False
  | .copy, [d, x] => match (argTypes[0]?).bind P.underlying with
    | some (.slice e) => if (P.info? e).isSome then thn (copyV (P.cellsOf e) h d x) fun r => q r.1 r.2 else False
    | _ => False
  | .clear, [x] => match (argTypes[0]?).bind P.underlying with
    | some (.slice e) => (match zeroOf P e with
      | some z => thn (clearV z h x) fun r => q r.1 r.2
      | none => False)
    | _ => False
  | .min, [x, y] => thn (minV x y) fun v => q v h
  | .max, [x, y] => thn (maxV x y) fun v => q v h
  | _, _ => False

theorem wpBuiltin_sound {h : AH} {q : Value → AH → Prop} {at_ : Array TypeId} {b : Builtin} {args : List Value} (hw : wpBuiltin P h q at_ b args) : ∃ v h', abuiltin P h b at_ args = some (v, h') ∧ q v h' := by
  unfold wpBuiltin at hw
  split at hw
  · split at hw
    · rename_i ht
      obtain ⟨v, h1, h2⟩ := hw
      refine ⟨v, h, ?_, h2⟩
      unfold lenT at h1
      split at h1
      · simp only [abuiltin, ht]; cases h1; rfl
      · cases h1
    · rename_i ht
      obtain ⟨v, h1, h2⟩ := hw
      refine ⟨v, h, ?_, h2⟩
      unfold lenS at h1
      split at h1
      · simp only [abuiltin, ht]; cases h1; rfl
      · cases h1
    · rename_i ht
      refine ⟨_, h, ?_, hw⟩
      simp only [abuiltin, ht]
    · rename_i ht
      split at hw
      · rename_i ht2
        refine ⟨_, h, ?_, hw⟩
        simp only [abuiltin, ht, ht2]
      · cases hw
    · cases hw
  · split at hw
    · rename_i e ht
      split at hw
      · rename_i hc
        obtain ⟨⟨v, h'⟩, h1, h2⟩ := hw
        refine ⟨v, h', ?_, h2⟩
        obtain ⟨z, hz⟩ := Option.isSome_iff_exists.1 hc.2
        unfold appV at h1
        split at h1
        · rename_i hl
          simp only [abuiltin, aappend, ht, hl, hc.1, hz, Bool.not_true, Bool.false_eq_true, if_false]
          split at h1
          · rename_i hs
            rw [hs]; exact h1
          · cases h1
        · cases h1
      · cases hw
    · cases hw
  · split at hw
    · rename_i e ht
      split at hw
      · rename_i hc
        obtain ⟨⟨v, h'⟩, h1, h2⟩ := hw
        refine ⟨v, h', ?_, h2⟩
        unfold copyV at h1
        split at h1
        · rename_i hl
          have hn : (P.info? e).isNone = false := by cases hh : P.info? e with | none => rw [hh] at hc; cases hc | some _ => rfl
          simp only [abuiltin, ht, hl, hn, Bool.false_eq_true, if_false]
          exact h1
        · cases h1
      · cases hw
    · cases hw
  · split at hw
    · rename_i e ht
      split at hw
      · rename_i z hz
        obtain ⟨⟨v, h'⟩, h1, h2⟩ := hw
        refine ⟨v, h', ?_, h2⟩
        unfold clearV at h1
        split at h1
        · simp only [abuiltin, ht]; exact h1
        · simp only [abuiltin, ht, hz]; exact h1
        · cases h1
      · cases hw
    · cases hw
  · obtain ⟨v, h1, h2⟩ := hw
    refine ⟨v, h, ?_, h2⟩
    unfold minV at h1
    split at h1
    · simp only [abuiltin]; cases h1; rfl
    · cases h1
  · obtain ⟨v, h1, h2⟩ := hw
    refine ⟨v, h, ?_, h2⟩
    unfold maxV at h1
    split at h1
    · simp only [abuiltin]; cases h1; rfl
    · cases h1
  · cases hw

/-- one that is called by name -/
def wpHeavy (P : Program) (K : FuncId → List Value → Option Ans) (ev : Operand → Value) (h : AH) (q : Value → AH → Prop) : Op → Prop
  | .store t a x => if (P.info? t).isSome then thn (stV h (P.cellsOf t) (ev a) (ev x)) fun h' => q undef h' else False
  | .call c => match c.callee with
    | .builtin b => wpBuiltin P h q c.argTypes b (c.args.toList.map ev)
    | .value (.func g) => if callable P g then Ok P K (.call g (c.args.toList.map ev)) h fun o h' => q o.v h' else False
    | .value f => OkF P K (ev f) (c.args.toList.map ev) h q
    | .invoke _ _ => False
  | _ => False

theorem okF_sound {f : Value} {args : List Value} {h : AH} {q : Value → AH → Prop} (hw : OkF P K f args h q) :
    ∃ n v h', (match f with
      | .func (.func g) first captured => if callable P g then (run P K n (.call g (first.toList ++ args ++ captured.toList)) h).map fun r => (r.1.v, r.2) else none
      | .func (.yield l) first _ => (run P K n (.round l (first.toList ++ args)) h).map fun r => (r.1.v, r.2)
      | _ => none) = some (v, h') ∧ q v h' := by
  unfold OkF at hw
  split at hw
  · obtain ⟨hc, n, r, h1, h2⟩ := hw
    refine ⟨n, _, _, ?_, h2⟩
    simp only [hc, if_true, h1]; rfl
  · obtain ⟨n, r, h1, h2⟩ := hw
    refine ⟨n, _, _, ?_, h2⟩
    simp only [h1]; rfl
  · cases hw

theorem wpHeavy_sound {ev : Operand → Value} (hev : ∀ g, ev (.func g) = .func (.func g) #[] #[]) {h : AH} {q : Value → AH → Prop} {op : Op} (hw : wpHeavy P K ev h q op) :
    (kindOf op = .store ∨ kindOf op = .call) ∧ ∃ n v h', heavyStep P (run P K n) ev h op = some (v, h') ∧ q v h' := by
  unfold wpHeavy at hw
  split at hw
  · refine ⟨.inl rfl, ?_⟩
    split at hw
    · rename_i hinf
      obtain ⟨h', h1, h2⟩ := hw
      refine ⟨0, undef, h', ?_, h2⟩
      unfold stV at h1
      split at h1
      · rename_i he
        split at h1
        · rename_i hc
          split at h1
          · rename_i hl
            simp only [heavyStep, he, astore, hc, hl, hinf, and_self, if_true, h1]; rfl
          · cases h1
        · cases h1
      · cases h1
    · cases hw
  · rename_i c
    refine ⟨.inr rfl, ?_⟩
    split at hw
    · rename_i hcal
      obtain ⟨v, h', h1, h2⟩ := wpBuiltin_sound hw
      refine ⟨0, v, h', ?_, h2⟩
      simp only [heavyStep, hcal, h1]
    · rename_i hcal
      split at hw
      · rename_i hc
        obtain ⟨n, r, h1, h2⟩ := hw
        refine ⟨n, _, _, ?_, h2⟩
        simp only [heavyStep, hcal, hev, hc, if_true]
        rw [show (#[] : Array Value).toList ++ List.map ev c.args.toList ++ (#[] : Array Value).toList = List.map ev c.args.toList by simp, h1]
        rfl
      · cases hw
    · rename_i f hf hcal
      obtain ⟨n, v, h', h1, h2⟩ := okF_sound hw
      refine ⟨n, v, h', ?_, h2⟩
      simp only [heavyStep, hcal]
      exact h1
    · cases hw
  · cases hw

def slPtr (l c i : Nat) : Value := .slice (some ⟨i, 0, none⟩) l c
def ptr0 (i : Nat) : Value := .pointer (some ⟨i, 0, none⟩)
def wpAlloc (P : Program) (ev : Operand → Value) (q : Blk → (Nat → Value) → Prop) : Op → Prop
  | .alloc e => match zeroOf P e with
    | some z => q (.cells z e (0, 0) true) ptr0
    | none => False
  | .box e x => thn (blkOf e (ev x)) fun b => q b ptr0
  | .buildSlice t len parts => match P.underlying t with
    | some (.slice e) => (match zeroOf P e with
      | some z => if len * P.cellsOf e ≤ 2 ^ 24 then (match partsL (fun i => some (i * P.cellsOf e, P.cellsOf e)) ev parts.toList with
        | some ps => thn (fillL (zerosA z len) ps) fun l => q (.cells l e (0, 0) true) (slPtr len len)
        | none => False) else False
      | none => False)
    | _ => False
  | .makeSlice t l c => match P.underlying t with
    | some (.slice e) => (match zeroOf P e with
      | some z => thn (mkS (P.bytesOf e) (ev l) (ev c)) fun n => q (.cells (zerosA z n.2) e (0, 0) true) (slPtr n.1 n.2)
      | none => False)
    | _ => False
  | _ => False
theorem wpAlloc_sound {ev : Operand → Value} {q : Blk → (Nat → Value) → Prop} {op : Op} (hw : wpAlloc P ev q op) : kindOf op = .alloc ∧ ∃ b f, aalloc P ev op = some (b, f) ∧ q b f := by
  unfold wpAlloc at hw
  split at hw
  · refine ⟨rfl, ?_⟩
    split at hw
    · rename_i hz
      exact ⟨_, _, by simp only [aalloc, hz]; rfl, hw⟩
    · cases hw
  · refine ⟨rfl, ?_⟩
    obtain ⟨b, h1, h2⟩ := hw
    refine ⟨b, ptr0, ?_, h2⟩
    unfold blkOf at h1
    simp only [Option.map_eq_some_iff] at h1
    obtain ⟨l, h1, rfl⟩ := h1
    simp only [aalloc, h1]; rfl
  · refine ⟨rfl, ?_⟩
    split at hw
    · rename_i ht
      split at hw
      · rename_i hz
        split at hw
        · rename_i hc
          split at hw
          · rename_i ps hps
            obtain ⟨l, h1, h2⟩ := hw
            refine ⟨_, _, ?_, h2⟩
            simp only [aalloc, ht, hz, hc, if_true]
            rw [fillL_eq hps, h1]; rfl
          · cases hw
        · cases hw
      · cases hw
    · cases hw
  · refine ⟨rfl, ?_⟩
    split at hw
    · rename_i ht
      split at hw
      · rename_i hz
        obtain ⟨n, h1, h2⟩ := hw
        refine ⟨_, _, ?_, h2⟩
        unfold mkS at h1
        split at h1
        · rename_i e1 e2
          split at h1
          · rename_i hc
            cases h1
            simp only [aalloc, ht, e1, e2, hz, hc, and_self, if_true]
            rfl
          · cases h1
        · cases h1
      · cases hw
    · cases hw
  · cases hw

end
end Go.Ab
end
section
namespace Go.Ab
noncomputable section
variable {P : Program} {K : FuncId → List Value → Option Ans}

/-- guards whose value is known -/
abbrev Dec := List (Tmp × Option Bool)
def decV : Option Bool → Value
  | some b => .bool b
  | none => undef
def Dec.drop (d : Dec) (t : Option Tmp) : Dec := match t with
  | some t => d.filter fun x => x.1 != t
  | none => d
def Dec.ok (d : Dec) (env : List Value) : Prop := ∀ t b, (t, b) ∈ d → env[t]? = some (decV b)
theorem Dec.ok_drop {d : Dec} {env : List Value} {t : Option Tmp} {v : Value} (h : d.ok env) : (d.drop t).ok (aput env t v) := by
  intro t' b hm
  cases t with
  | none => exact h t' b hm
  | some t =>
    simp only [Dec.drop, List.mem_filter, bne_iff_ne, ne_eq] at hm
    simp only [aput]
    rw [List.getElem?_set_ne (fun e => hm.2 e.symm)]
    exact h t' b hm.1
theorem Dec.find {d : Dec} {t : Tmp} {b : Option Bool} (h : d.lookup t = some b) : (t, b) ∈ d := by
  induction d with
  | nil => simp at h
  | cons x d ih =>
    obtain ⟨t', b'⟩ := x
    simp only [List.lookup_cons] at h
    by_cases e : t == t'
    · simp only [e] at h; cases h; simp only [beq_iff_eq] at e; subst e; exact List.mem_cons_self
    · simp only [Bool.not_eq_true] at e; simp only [e] at h; exact List.mem_cons_of_mem _ (ih h)

/-- is it wanted? 'p true' if so -/
def wpGuard (dsts : Nat → Option Tmp) (env : List Value) (dec : Dec) (g : Option (Nat × Bool)) (p : Bool → List Value → Dec → Prop) : Prop :=
  match g with
  | none => p true env dec
  | some (j, want) => match dsts j with
    | none => False
    | some d => match dec.lookup d with
      | some (some b) => p (b == want) env dec
      | some none => p false env dec
      | none => Br (env.getD d undef) (p (true == want) (env.set d (.bool true)) ((d, some true) :: dec)) (p (false == want) (env.set d (.bool false)) ((d, some false) :: dec))
theorem set_self {env : List Value} {d : Nat} {v : Value} (h : env[d]? = some v) : env.set d v = env := by
  refine List.ext_getElem? fun i => ?_
  rw [List.getElem?_set]
  by_cases e : d = i
  · subst e
    rw [if_pos rfl, if_pos (List.getElem?_eq_some_iff.1 h).1, h]
  · rw [if_neg e]
theorem wpGuard_sound {all : Array Oper} {env : List Value} {dec : Dec} {o : Oper} {p : Bool → List Value → Dec → Prop} (hd : dec.ok env) (hw : wpGuard (fun j => (all[j]?).bind (·.dst)) env dec o.guard p) :
    ∃ b dec', aWanted all env o = some b ∧ dec'.ok env ∧ p b env dec' := by
  unfold wpGuard at hw
  unfold aWanted
  split at hw
  · rename_i hg; rw [hg]; exact ⟨true, dec, rfl, hd, hw⟩
  · rename_i j want hg
    rw [hg]
    simp only
    split at hw
    · cases hw
    · rename_i d hdst
      replace hdst : (all[j]?).bind (·.dst) = some d := hdst
      rw [hdst]
      simp only [Option.bind_some]
      split at hw
      · rename_i b hb
        rw [hd _ _ (Dec.find hb)]
        exact ⟨_, dec, rfl, hd, hw⟩
      · rename_i hb
        rw [hd _ _ (Dec.find hb)]
        exact ⟨_, dec, rfl, hd, hw⟩
      · obtain ⟨b, hb, ht, hf⟩ := hw
        rw [List.getD_eq_getElem?_getD] at hb
        cases he : env[d]? with
        | none => rw [he] at hb; simp [undef] at hb
        | some v =>
          rw [he] at hb
          simp only [Option.getD_some] at hb
          subst hb
          have hok : Dec.ok ((d, some b) :: dec) env := by
            intro t b' hm
            rcases List.mem_cons.1 hm with h1 | h1
            · cases h1; exact he
            · exact hd t b' h1
          cases b with
          | true => exact ⟨_, (d, some true) :: dec, rfl, hok, by have := ht rfl; rw [set_self he] at this; exact this⟩
          | false => exact ⟨_, (d, some false) :: dec, rfl, hok, by have := hf rfl; rw [set_self he] at this; exact this⟩

/-! ### In the text's order -/
/-- with a new block -/
def alc (h : AH) (b : Blk) (p : Nat → AH → Prop) : Prop := p h.next (h.alloc b)
/-- with a block that was reserved -/
def alcAt (h : AH) (r : Nat) (b : Blk) (p : Nat → AH → Prop) : Prop := p r (h.set r (some b))
def resv (h : AH) (n : Nat) (p : Nat → AH → Prop) : Prop := p h.next { h with next := h.next + n }
def wpOp (P : Program) (K : FuncId → List Value → Option Ans) (env : List Value) (h : AH) (q : Value → AH → Prop) (op : Op) : Prop :=
  match kindOf op with
  | .light => wpLight P (aeval P env) h (fun v => q v h) op
  | .alloc => wpAlloc P (aeval P env) (fun b f => alc h b fun i h' => q (f i) h') op
  | .store | .call => wpHeavy P K (aeval P env) h q op
  | .other => False
theorem wpOp_sound {env : List Value} {h : AH} {q : Value → AH → Prop} {op : Op} (hw : wpOp P K env h q op) : ∃ n v h', opStep P (run P K n) env h op = some (v, h') ∧ q v h' := by
  unfold wpOp at hw
  cases hk : kindOf op with
  | light =>
    simp only [hk] at hw
    obtain ⟨_, v, h1, h2⟩ := wpLight_sound hw
    exact ⟨0, v, h, by simp only [opStep, hk, h1]; rfl, h2⟩
  | alloc =>
    simp only [hk] at hw
    obtain ⟨_, b, f, h1, h2⟩ := wpAlloc_sound hw
    exact ⟨0, _, _, by simp only [opStep, hk, h1]; rfl, h2⟩
  | store =>
    simp only [hk] at hw
    obtain ⟨_, n, v, h', h1, h2⟩ := wpHeavy_sound (fun g => rfl) hw
    exact ⟨n, v, h', by simp only [opStep, hk, h1], h2⟩
  | call =>
    simp only [hk] at hw
    obtain ⟨_, n, v, h', h1, h2⟩ := wpHeavy_sound (fun g => rfl) hw
    exact ⟨n, v, h', by simp only [opStep, hk, h1], h2⟩
  | other => simp only [hk] at hw

def dstIn (env : List Value) (d : Option Tmp) : Bool := match d with
  | some d => decide (d < env.length)
  | none => true
theorem dstIn_lt {env : List Value} {dst : Option Tmp} (h : dstIn env dst = true) : ∀ d, dst = some d → d < env.length := by
  intro d hd; subst hd; simpa [dstIn] using h
/-- a choice whose condition is known: what is chosen, and whether that is known -/
def pickOf (dec : Dec) (op : Op) : Option Operand := match op with
  | .pick (.tmp c) a b => (match dec.lookup c with
    | some (some true) => some a
    | some (some false) => some b
    | _ => none)
  | .move x => some x
  | .assign x => some x
  | _ => none
def knownB (dec : Dec) (x : Operand) : Option Bool := match x with
  | .const (.bool y) => some y
  | .tmp t => (match dec.lookup t with
    | some (some y) => some y
    | _ => none)
  | _ => none
def Dec.put (dec : Dec) (dst : Option Tmp) (x : Operand) : Dec := match dst, knownB dec x with
  | some d, some y => (d, some y) :: dec.drop (some d)
  | d, _ => dec.drop d
theorem pickOf_sound {dec : Dec} {env : List Value} (hd : dec.ok env) {op : Op} {x : Operand} (h : pickOf dec op = some x) : kindOf op = .light ∧ ∀ hh, alight P (aeval P env) hh op = some (aeval P env x) := by
  unfold pickOf at h
  split at h
  · rename_i c a b
    split at h
    · rename_i hl
      cases h
      refine ⟨rfl, fun hh => ?_⟩
      have := hd _ _ (Dec.find hl)
      simp [alight, aeval, List.getD_eq_getElem?_getD, this, decV]
    · rename_i hl
      cases h
      refine ⟨rfl, fun hh => ?_⟩
      have := hd _ _ (Dec.find hl)
      simp [alight, aeval, List.getD_eq_getElem?_getD, this, decV]
    · cases h
  · cases h; exact ⟨rfl, fun _ => rfl⟩
  · cases h; exact ⟨rfl, fun _ => rfl⟩
  · cases h
theorem Dec.ok_put {dec : Dec} {env : List Value} {dst : Option Tmp} {x : Operand} (hd : dec.ok env) (hlt : ∀ d, dst = some d → d < env.length) : (dec.put dst x).ok (aput env dst (aeval P env x)) := by
  unfold Dec.put
  split
  · rename_i d y hk
    intro t b hm
    rcases List.mem_cons.1 hm with h1 | h1
    · cases h1
      have hv : aeval P env x = .bool y := by
        unfold knownB at hk
        split at hk
        · cases hk; simp [aeval, plainV]
        · split at hk
          · rename_i hk2; cases hk; have := hd _ _ (Dec.find hk2); simp [aeval, List.getD_eq_getElem?_getD, this, decV]
          · cases hk
        · cases hk
      simp only [aput]
      rw [List.getElem?_set_self (hlt d rfl), hv]; rfl
    · exact Dec.ok_drop hd t b h1
  · exact Dec.ok_drop hd

/-- an operation that is passed over -/
def Dec.skip (dec : Dec) (env : List Value) (dst : Option Tmp) : Dec := match dst with
  | some d => if d < env.length then (d, none) :: dec.drop (some d) else dec.drop (some d)
  | none => dec
theorem Dec.ok_skip {dec : Dec} {env : List Value} {dst : Option Tmp} (hd : dec.ok env) : (dec.skip env dst).ok (aput env dst undef) := by
  unfold Dec.skip
  cases dst with
  | none => exact hd
  | some d =>
    simp only
    split
    · rename_i hlt
      intro t b hm
      rcases List.mem_cons.1 hm with h1 | h1
      · cases h1
        simp only [aput]
        rw [List.getElem?_set_self hlt]; rfl
      · exact Dec.ok_drop hd t b h1
    · exact Dec.ok_drop hd

def wpOps (P : Program) (K : FuncId → List Value → Option Ans) (dsts : Nat → Option Tmp) : List Oper → List Value → AH → Dec → (List Value → AH → Dec → Prop) → Prop
  | [], env, h, dec, q => q env h dec
  | o :: os, env, h, dec, q => wpGuard dsts env dec o.guard fun b env dec =>
    match b with
    | true => (match pickOf dec o.op with
      | some x => wpOps P K dsts os (aput env o.dst (aeval P env x)) h (if dstIn env o.dst then dec.put o.dst x else dec.drop o.dst) q
      | none => wpOp P K env h (fun v h' => wpOps P K dsts os (aput env o.dst v) h' (dec.drop o.dst) q) o.op)
    | false => wpOps P K dsts os (aput env o.dst undef) h (dec.skip env o.dst) q
theorem wpOps_sound {all : Array Oper} : ∀ {os : List Oper} {env : List Value} {h : AH} {dec : Dec} {q : List Value → AH → Dec → Prop}, dec.ok env → wpOps P K (fun j => (all[j]?).bind (·.dst)) os env h dec q →
    ∃ n o h' dec', run P K n (.ops all os env) h = some (o, h') ∧ dec'.ok o.env ∧ q o.env h' dec'
  | [], env, h, dec, q, hd, hw => ⟨1, _, h, dec, rfl, hd, hw⟩
  | o :: os, env, h, dec, q, hd, hw => by
    simp only [wpOps] at hw
    obtain ⟨b, dec', hwant, hd', hb⟩ := wpGuard_sound hd hw
    cases b with
    | true =>
      simp only at hb
      obtain ⟨n1, v, h1, dec2, hs, hd2, hrest⟩ : ∃ n1 v h1 dec2, opStep P (run P K n1) env h o.op = some (v, h1) ∧ dec2.ok (aput env o.dst v) ∧ wpOps P K (fun j => (all[j]?).bind (·.dst)) os (aput env o.dst v) h1 dec2 q := by
        split at hb
        · rename_i x hx
          obtain ⟨hk, ha⟩ := pickOf_sound (P := P) hd' hx
          refine ⟨0, _, h, _, by simp only [opStep, hk, ha]; rfl, ?_, hb⟩
          split
          · rename_i hin; exact Dec.ok_put hd' (dstIn_lt hin)
          · exact Dec.ok_drop hd'
        · obtain ⟨n1, v, h1, hs, hrest⟩ := wpOp_sound hb
          exact ⟨n1, v, h1, _, hs, Dec.ok_drop hd', hrest⟩
      obtain ⟨n2, out, h', d', hr, hq⟩ := wpOps_sound hd2 hrest
      refine ⟨max n1 n2 + 1, out, h', d', ?_, hq⟩
      show runOps P (fun t h => run P K (max n1 n2) t h) all (o :: os) env h = _
      simp only [runOps, hwant]
      rw [show (fun t h => run P K (max n1 n2) t h) = run P K (max n1 n2) from rfl, opStep_le (run_mono (Nat.le_max_left n1 n2)) hs]
      exact run_mono (Nat.le_max_right n1 n2) _ _ _ hr
    | false =>
      simp only at hb
      obtain ⟨n2, out, h', d', hr, hq⟩ := wpOps_sound (Dec.ok_skip hd') hb
      refine ⟨n2 + 1, out, h', d', ?_, hq⟩
      show runOps P (fun t h => run P K n2 t h) all (o :: os) env h = _
      simp only [runOps, hwant]
      exact hr

/-! ### In an order that is drawn -/
def wpLB (P : Program) (q : Value → Prop) (argTypes : Array TypeId) : Builtin → List Value → Prop
  | .len, [x] => match (argTypes[0]?).bind P.underlying with
    | some .string => thn (lenT x) q
    | some (.slice _) => thn (lenS x) q
    | some (.array n _) => q (.int .i64 n)
    | some (.pointer e) => (match P.underlying e with
      | some (.array n _) => q (.int .i64 n)
      | _ => False)
    | _ => False
  | .min, [x, y] => thn (minV x y) q
  | .max, [x, y] => thn (maxV x y) q
  | _, _ => False
theorem wpLB_sound {h : AH} {q : Value → Prop} {at_ : Array TypeId} {b : Builtin} {args : List Value} (hw : wpLB P q at_ b args) : litBuiltin b = true ∧ ∃ v, (abuiltin P h b at_ args).map (·.1) = some v ∧ q v := by
  have key : wpBuiltin P h (fun v _ => q v) at_ b args → ∃ v, (abuiltin P h b at_ args).map (·.1) = some v ∧ q v := fun hb => by
    obtain ⟨v, h', h1, h2⟩ := wpBuiltin_sound hb
    exact ⟨v, by rw [h1]; rfl, h2⟩
  unfold wpLB at hw
  split at hw
  · exact ⟨rfl, key (by simp only [wpBuiltin]; exact hw)⟩
  · exact ⟨rfl, key (by simp only [wpBuiltin]; exact hw)⟩
  · exact ⟨rfl, key (by simp only [wpBuiltin]; exact hw)⟩
  · cases hw
def wpLV (P : Program) (ev : Operand → Value) (h : AH) (q : Value → Prop) : Op → Prop
  | .call c => match c.callee with
    | .builtin b => wpLB P q c.argTypes b (c.args.toList.map ev)
    | _ => False
  | op => wpLight P ev h q op
theorem wpLV_sound {ev : Operand → Value} {h : AH} {q : Value → Prop} {op : Op} (hw : wpLV P ev h q op) : isLight op = true ∧ ∃ v, lightVal P ev h op = some v ∧ q v := by
  unfold wpLV at hw
  split at hw
  · split at hw
    · rename_i hc
      obtain ⟨hl, v, h1, h2⟩ := wpLB_sound (h := h) hw
      exact ⟨by simp [isLight, hc, hl], v, by simp only [lightVal, hc, hl, if_true]; exact h1, h2⟩
    · cases hw
  · rename_i hne
    obtain ⟨hk, v, h1, h2⟩ := wpLight_sound hw
    refine ⟨?_, v, ?_, h2⟩
    · cases op <;> first | (simp [isLight, hk]; done) | (simp [kindOf] at hk)
    · cases op <;> first | exact h1 | (simp [kindOf] at hk)

structure DR where
  env : List Value
  h : AH
  v : Value
  ran : Bool
def wpDOp (P : Program) (K : FuncId → List Value → Option Ans) (r : Nat) (env : List Value) (h : AH) (q : Value → AH → Prop) (op : Op) : Prop :=
  match isLight op with
  | true => wpLV P (aeval P env) h (fun v => q v h) op
  | false => match kindOf op with
    | .alloc => wpAlloc P (aeval P env) (fun b f => alcAt h r b fun i h' => q (f i) h') op
    | _ => wpHeavy P K (aeval P env) h q op
def wpDrawT (P : Program) (K : FuncId → List Value → Option Ans) (dsts : Nat → Option Tmp) : Nat → List Oper → List Value → AH → Dec → List DR → (List DR → List Value → AH → Dec → Prop) → Prop
  | _, [], env, h, dec, rs, q => q rs env h dec
  | r, o :: os, env, h, dec, rs, q => wpGuard dsts env dec o.guard fun b env dec =>
    match b with
    | true => (match pickOf dec o.op with
      | some x => wpDrawT P K dsts (r + 1) os (aput env o.dst (aeval P env x)) h (if dstIn env o.dst then dec.put o.dst x else dec.drop o.dst) (rs ++ [⟨env, h, aeval P env x, true⟩]) q
      | none => wpDOp P K r env h (fun v h' => wpDrawT P K dsts (r + 1) os (aput env o.dst v) h' (dec.drop o.dst) (rs ++ [⟨env, h, v, true⟩]) q) o.op)
    | false => wpDrawT P K dsts (r + 1) os (aput env o.dst undef) h (dec.skip env o.dst) (rs ++ [⟨env, h, undef, false⟩]) q
def wpFl (P : Program) (all : List Oper) (rs : List DR) (hEnd : AH) : List (Nat × Nat) → Prop → Prop
  | [], p => p
  | (i, s) :: fs, p => match all[i]? with
    | some o => (match rs[i]? with
      | some r => (match r.ran with
        | true => wpLV P (aeval P r.env) (match rs[s]? with | some q => q.h | none => hEnd) (fun v => veq v r.v = true) o.op ∧ wpFl P all rs hEnd fs p
        | false => wpFl P all rs hEnd fs p)
      | none => False)
    | none => False
def wpDraw (P : Program) (K : FuncId → List Value → Option Ans) (ops : Array Oper) (env : List Value) (h : AH) (q : List Value → AH → Dec → Prop) : Prop :=
  if drawOk ops.toList && (P.follows .mixedOrders || !Region.departs ops) then
    resv h ops.size fun r h1 => wpDrawT P K (fun j => (ops[j]?).bind (·.dst)) r ops.toList env h1 [] [] fun rs env' h' dec => wpFl P ops.toList rs h' (floats ops.toList) (q env' h' dec)
  else False

theorem wpDOp_sound {all : List Oper} {r0 i : Nat} {env : List Value} {h : AH} {q : Value → AH → Prop} {o : Oper} (hwant : aWanted ⟨all⟩ env o = some true) (hw : wpDOp P K (r0 + i) env h q o.op) :
    ∃ n v h', drawStep P (run P K n) all r0 i env h o = some (v, h') ∧ q v h' := by
  unfold wpDOp at hw
  unfold drawStep
  simp only [hwant]
  cases hl : isLight o.op with
  | true =>
    simp only [hl] at hw
    obtain ⟨_, v, h1, h2⟩ := wpLV_sound hw
    exact ⟨0, v, h, by simp [h1], h2⟩
  | false =>
    simp only [hl] at hw
    split at hw
    · rename_i hk
      obtain ⟨_, b, f, h1, h2⟩ := wpAlloc_sound hw
      exact ⟨0, _, _, by simp [hk, h1], h2⟩
    · obtain ⟨hk, n, v, h', h1, h2⟩ := wpHeavy_sound (fun g => rfl) hw
      refine ⟨n, v, h', ?_, h2⟩
      have : (kindOf o.op == Kind.alloc) = false := by rcases hk with h | h <;> rw [h] <;> rfl
      simp [this, h1]
def DRok (all : List Oper) (rs : List DR) : Prop := ∀ (i : Nat) (o : Oper) (r : DR), all[i]? = some o → rs[i]? = some r → aWanted ⟨all⟩ r.env o = some r.ran
theorem wpDrawT_sound {all : List Oper} {r0 : Nat} : ∀ {os : List Oper} {i : Nat} {env : List Value} {h : AH} {dec : Dec} {rs : List DR} {q : List DR → List Value → AH → Dec → Prop}, dec.ok env → rs.length = i → (∀ j, all[i + j]? = os[j]?) → DRok all rs →
    wpDrawT P K (fun j => ((⟨all⟩ : Array Oper)[j]?).bind (·.dst)) (r0 + i) os env h dec rs q →
    ∃ n rs2 e h' dec', drawText P (run P K n) all r0 i os env h = some (rs2.map fun r => ⟨r.env, r.h, r.v⟩, e, h') ∧ DRok all (rs ++ rs2) ∧ dec'.ok e ∧ q (rs ++ rs2) e h' dec'
  | [], i, env, h, dec, rs, q, hd, _, _, hok, hw => ⟨0, [], env, h, dec, rfl, by simpa using hok, hd, by simpa [wpDrawT] using hw⟩
  | o :: os, i, env, h, dec, rs, q, hd, hlen, hall, hok, hw => by
    simp only [wpDrawT] at hw
    obtain ⟨b, dec', hwant, hd', hb⟩ := wpGuard_sound hd hw
    have ho : all[i]? = some o := by have := hall 0; simpa using this
    have hok' : ∀ (h2 : AH) (v : Value), DRok all (rs ++ [⟨env, h2, v, b⟩]) := by
      intro h2 v j o' r ho' hr
      rcases Nat.lt_trichotomy j rs.length with h1 | h1 | h1
      · rw [List.getElem?_append_left h1] at hr
        exact hok j o' r ho' hr
      · subst h1
        rw [List.getElem?_append_right (Nat.le_refl _), Nat.sub_self] at hr
        simp at hr
        subst hr
        rw [hlen] at ho'
        rw [ho] at ho'; cases ho'
        exact hwant
      · rw [List.getElem?_append_right (by omega)] at hr
        rw [List.getElem?_eq_none (by simp; omega)] at hr
        cases hr
    have hall' : ∀ j, all[i + 1 + j]? = os[j]? := fun j => by
      have := hall (j + 1)
      rw [show i + 1 + j = i + (j + 1) by omega, this]; simp
    cases b with
    | true =>
      simp only at hb
      obtain ⟨n1, v, h1, dec2, hs, hd2, hrest⟩ : ∃ n1 v h1 dec2, drawStep P (run P K n1) all r0 i env h o = some (v, h1) ∧ dec2.ok (aput env o.dst v) ∧
          wpDrawT P K (fun j => ((⟨all⟩ : Array Oper)[j]?).bind (·.dst)) (r0 + i + 1) os (aput env o.dst v) h1 dec2 (rs ++ [⟨env, h, v, true⟩]) q := by
        split at hb
        · rename_i x hx
          obtain ⟨hk, ha⟩ := pickOf_sound (P := P) hd' hx
          have hl : isLight o.op = true := by
            cases hop : o.op <;> rw [hop] at hk <;> first | (simp [isLight, kindOf]; done) | (simp [kindOf] at hk)
          have hlv : lightVal P (aeval P env) h o.op = some (aeval P env x) := by
            have := ha h
            cases hop : o.op <;> rw [hop] at hk this <;> first | exact this | (simp [kindOf] at hk)
          refine ⟨0, _, h, _, by simp [drawStep, hwant, hl, hlv], ?_, hb⟩
          split
          · rename_i hin; exact Dec.ok_put hd' (dstIn_lt hin)
          · exact Dec.ok_drop hd'
        · obtain ⟨n1, v, h1, hs, hrest⟩ := wpDOp_sound hwant hb
          exact ⟨n1, v, h1, _, hs, Dec.ok_drop hd', hrest⟩
      obtain ⟨n2, rs2, e, h', d', hr, hok2, hd3, hq⟩ := wpDrawT_sound (i := i + 1) hd2 (by simp [hlen]) hall' (hok' h v) hrest
      refine ⟨max n1 n2, ⟨env, h, v, true⟩ :: rs2, e, h', d', ?_, by simpa using hok2, hd3, by simpa using hq⟩
      simp only [drawText, drawStep_le (run_mono (Nat.le_max_left n1 n2)) hs, drawText_le (run_mono (Nat.le_max_right n1 n2)) _ hr]
      rfl
    | false =>
      simp only at hb
      obtain ⟨n2, rs2, e, h', d', hr, hok2, hd3, hq⟩ := wpDrawT_sound (i := i + 1) (Dec.ok_skip hd') (by simp [hlen]) hall' (hok' h undef) hb
      refine ⟨n2, ⟨env, h, undef, false⟩ :: rs2, e, h', d', ?_, by simpa using hok2, hd3, by simpa using hq⟩
      have hs : drawStep P (run P K n2) all r0 i env h o = some (undef, h) := by simp only [drawStep, hwant]
      simp only [drawText, hs, hr]
      rfl
theorem wpFl_sound {all : List Oper} {rs : List DR} {hEnd : AH} (hok : DRok all rs) {p : Prop} : ∀ {fs : List (Nat × Nat)}, wpFl P all rs hEnd fs p → (fs.all (floatOk P all (rs.map fun r => ⟨r.env, r.h, r.v⟩) hEnd) = true) ∧ p
  | [], hw => ⟨rfl, hw⟩
  | (i, s) :: fs, hw => by
    simp only [wpFl] at hw
    split at hw
    · rename_i o ho
      split at hw
      · rename_i r hr
        have hwant := hok i o r ho hr
        have hmap : (rs.map fun r => (⟨r.env, r.h, r.v⟩ : Rec))[i]? = some ⟨r.env, r.h, r.v⟩ := by simp [hr]
        have hh : (match (rs.map fun r => (⟨r.env, r.h, r.v⟩ : Rec))[s]? with | some q => q.h | none => hEnd) = (match rs[s]? with | some q => q.h | none => hEnd) := by
          cases hs : rs[s]? <;> simp [hs]
        split at hw
        · rename_i hran
          obtain ⟨h1, h2⟩ := hw
          obtain ⟨h3, h4⟩ := wpFl_sound hok h2
          refine ⟨?_, h4⟩
          rw [List.all_cons, h3, Bool.and_true]
          obtain ⟨_, v, hv, hveq⟩ := wpLV_sound h1
          rw [← hh] at hv
          simp only [floatOk, ho, hmap, hwant, hran]
          refine Eq.trans ?_ hveq
          erw [hv]
        · rename_i hran
          obtain ⟨h3, h4⟩ := wpFl_sound hok hw
          refine ⟨?_, h4⟩
          rw [List.all_cons, h3, Bool.and_true]
          simp only [floatOk, ho, hmap, hwant, hran]
      · cases hw
    · cases hw
theorem wpDraw_sound {ops : Array Oper} {env : List Value} {h : AH} {q : List Value → AH → Dec → Prop} (hw : wpDraw P K ops env h q) : ∃ n e h' dec, drawRun P (run P K n) ops env h = some (e, h') ∧ dec.ok e ∧ q e h' dec := by
  unfold wpDraw at hw
  split at hw
  · rename_i hc
    obtain ⟨n, rs2, e, h', dec, hr, hok, hd, hq⟩ := wpDrawT_sound (all := ops.toList) (r0 := h.next) (i := 0) (fun t b hm => by cases hm) rfl (fun j => by simp) (fun i o r _ hr => by simp at hr) hw
    simp only [List.nil_append] at hok hq
    obtain ⟨hf, hq⟩ := wpFl_sound hok hq
    refine ⟨n, e, h', dec, ?_, hd, hq⟩
    unfold drawRun
    rw [if_pos hc, hr]
    simp only
    rw [if_pos hf]
  · cases hw

end
end Go.Ab
end
section
namespace Go.Ab
noncomputable section
variable {P : Program} {K : FuncId → List Value → Option Ans}

/-! ### One step, and then on -/
section
variable {fn : FuncId} {ro : Option Nat} {ds : List Nat} {env : List Value} {k : List Item} {h : AH} {Q : Out → AH → Prop}
theorem ok_step {t t' : Task} {h' : AH} (hs : ∀ n, run P K (n + 1) t h = run P K n t' h') (hw : Ok P K t' h' Q) : Ok P K t h Q := by
  obtain ⟨n, r, h1, h2⟩ := hw
  exact ⟨n + 1, r, by rw [hs]; exact h1, h2⟩
theorem ok_cond {c : Operand} {t e : Code} (hw : Br (aeval P env c) (Ok P K (.todo fn ro ds env (.code t :: k)) h Q) (Ok P K (.todo fn ro ds env (.code e :: k)) h Q)) :
    Ok P K (.todo fn ro ds env (.code (.cond c t e) :: k)) h Q := by
  obtain ⟨b, hb, ht, hf⟩ := hw
  cases b with
  | true => exact ok_step (t' := .todo fn ro ds env (.code t :: k)) (fun n => by show runTodo _ _ _ _ _ _ _ _ = _; simp only [runTodo, hb, if_true]) (ht rfl)
  | false => exact ok_step (t' := .todo fn ro ds env (.code e :: k)) (fun n => by show runTodo _ _ _ _ _ _ _ _ = _; simp [runTodo, hb]) (hf rfl)
theorem ok_region {id : Nat} {ops : Array Oper} {dec : Dec} {q : List Value → AH → Dec → Prop} (hd : dec.ok env) (hq : ∀ env' h' dec', dec'.ok env' → q env' h' dec' → Ok P K (.todo fn ro ds env' k) h' Q) (hw : wpOps P K (fun j => (ops[j]?).bind (·.dst)) ops.toList env h dec q) :
    Ok P K (.todo fn ro ds env (.code (.region id ops false) :: k)) h Q := by
  obtain ⟨n1, o, h1, dec', hr, hd', hw⟩ := wpOps_sound hd hw
  obtain ⟨n2, r, hr2, hq⟩ := hq _ _ _ hd' hw
  refine ⟨max n1 n2 + 1, r, ?_, hq⟩
  show runTodo P (run P K (max n1 n2)) _ _ _ _ _ _ = _
  simp only [runTodo]
  rw [run_mono (Nat.le_max_left n1 n2) _ _ _ hr]
  exact run_mono (Nat.le_max_right n1 n2) _ _ _ hr2
theorem ok_draw {id : Nat} {ops : Array Oper} {q : List Value → AH → Dec → Prop} (hq : ∀ env' h' dec', dec'.ok env' → q env' h' dec' → Ok P K (.todo fn ro ds env' k) h' Q) (hw : wpDraw P K ops env h q) :
    Ok P K (.todo fn ro ds env (.code (.region id ops true) :: k)) h Q := by
  obtain ⟨n1, e, h1, dec', hr, hd', hw⟩ := wpDraw_sound hw
  obtain ⟨n2, r, hr2, hq⟩ := hq _ _ _ hd' hw
  refine ⟨max n1 n2 + 1, r, ?_, hq⟩
  show runTodo P (run P K (max n1 n2)) _ _ _ _ _ _ = _
  simp only [runTodo]
  rw [drawRun_le (run_mono (Nat.le_max_left n1 n2)) hr]
  exact run_mono (Nat.le_max_right n1 n2) _ _ _ hr2
end

/-- a loop's record, its round begun -/
def beginV (h : AH) (l : Nat) : Option AH := match h.get l with
  | some (.loop .ready _ _ _ _ _ _ _) => setLoop h l .busy none
  | _ => none
/-- a loop's record, the function it ranged over having come back -/
def endV (h : AH) (l : Nat) : Option (Option Code × AH) := match h.get l with
  | some (.loop st p _ _ _ _ _ _) => if st = .busy then none else (setLoop h l .exhausted none).map fun h' => (p, h')
  | _ => none
def defersOf (h : AH) (l : Nat) : Option Nat := match h.get l with
  | some (.loop _ _ _ _ _ _ _ d) => some d
  | _ => none
/-- a function that is ranged over, by the loop 'l' -/
def OkR (P : Program) (K : FuncId → List Value → Option Ans) (f : Value) (l : Nat) (h : AH) (q : Value → AH → Prop) : Prop := match f with
  | .func (.func g) first captured => callable P g = true ∧ Ok P K (.call g (first.toList ++ [.func (.yield l) #[] #[]] ++ captured.toList)) h fun o h' => q o.v h'
  | _ => False
def fstRegion : Code → Option Nat
  | .region id _ _ => some id
  | .seq a b => (match fstRegion a with
    | some r => some r
    | none => fstRegion b)
  | .block _ b => fstRegion b
  | .loop b => fstRegion b
  | .scope b => fstRegion b
  | _ => none
def keyOf : List Item → Option Nat
  | .code c :: k => (match fstRegion c with
    | some r => some r
    | none => keyOf k)
  | .inLoop c :: k => (match fstRegion c with
    | some r => some r
    | none => keyOf k)
  | _ :: k => keyOf k
  | [] => none
/-- the exits that a code has to what is around it -/
def exitsOut : Code → List Nat
  | .exit id => [id]
  | .seq a b => exitsOut a ++ exitsOut b
  | .cond _ t e => exitsOut t ++ exitsOut e
  | .block id b => (exitsOut b).filter (· != id)
  | .loop b => exitsOut b
  | .scope b => exitsOut b
  | .rangeFunc _ _ a b => exitsOut a ++ exitsOut b
  | _ => []
/-- what is pending behind a range over a function -/
def EndX (p : Option Code) (a b : Prop) (c : List (Nat × Prop)) : Prop := match p with
  | none => a
  | some .ret => b
  | some (.exit id) => (match c.lookup id with
    | some q => q
    | none => False)
  | _ => False
/-- the loop's record keeps the frame; of it, 'lv' counts -/
def wpRangeL (P : Program) (K : FuncId → List Value → Option Ans) (fn : FuncId) (f : Value) (n : Nat) (lv : List Nat) (vs : List Value) (ps : Array Tmp) (assign body : Code) (d : Nat) (h : AH) (q : Option Code → AH → Prop) : Prop :=
  ∀ e : Nat → Value, lv.map e = vs → alc h (.loop .ready none fn ((List.range n).map e) ps assign body d) fun l h2 => OkR P K f l h2 fun _ h3 => thn (endV h3 l) fun r => q r.1 r.2
def liveOf (L : List (Option Nat × List Nat)) (k : List Item) : List Nat := (L.lookup (keyOf k)).getD []
/-- what comes next, what does nothing being struck -/
def normK : Nat → List Item → List Item
  | 0, k => k
  | n + 1, k => match k with
    | .code c :: k' => (match c with
      | .skip => normK n k'
      | .label _ => normK n k'
      | .seq a b => normK n (.code a :: .code b :: k')
      | .block id b => normK n (.code b :: .inBlock id :: k')
      | .scope b => normK n (.code b :: .inScope b :: k')
      | .loop b => normK n (.code b :: .inLoop b :: k')
      | .exit id => (match exitTo id k' with
        | some k2 => normK n k2
        | none => k)
      | _ => k)
    | .inBlock _ :: k' => normK n k'
    | .inScope _ :: k' => normK n k'
    | .inLoop b :: k' => normK n (.code b :: .inLoop b :: k')
    | _ => k
def isEnd : List Item → Bool
  | [] => true
  | .code .ret :: _ => true
  | .code (.exit _) :: _ => true
  | _ => false
/-- does it leave soon? -/
def short (k : List Item) : Bool := match normK 60 k with
  | .code (.region _ _ _) :: k' => isEnd (normK 60 k')
  | k' => isEnd k'
/-- A walk. 'E': at a place where it stops, 'F': where it leaves. -/
def wpT (P : Program) (K : FuncId → List Value → Option Ans) (E : List Nat → List Value → List Item → AH → Prop) (F : Leave → List Nat → List Value → AH → Prop) (L : List (Option Nat × List Nat)) (fn : FuncId) (ro : Option Nat) :
    Nat → Dec → List Nat → List Value → List Item → AH → Prop
  | 0, _, ds, env, k, h => E ds env k h
  | n + 1, dec, ds, env, k, h =>
    match k with
    | [] => F .fell ds env h
    | .code c :: k =>
      (match c with
      | .skip => wpT P K E F L fn ro n dec ds env k h
      | .label _ => wpT P K E F L fn ro n dec ds env k h
      | .seq a b => wpT P K E F L fn ro n dec ds env (.code a :: .code b :: k) h
      | .cond c t e => (match knownB dec c with
        | some true => wpT P K E F L fn ro n dec ds env (.code t :: k) h
        | some false => wpT P K E F L fn ro n dec ds env (.code e :: k) h
        | none => Br (aeval P env c)
          (match short (.code t :: k) with
          | true => wpT P K E F L fn ro n dec ds env (.code t :: k) h
          | false => E ds env (normK 60 (.code t :: k)) h)
          (match short (.code e :: k) with
          | true => wpT P K E F L fn ro n dec ds env (.code e :: k) h
          | false => E ds env (normK 60 (.code e :: k)) h))
      | .block id b => wpT P K E F L fn ro n dec ds env (.code b :: .inBlock id :: k) h
      | .loop b => E ds env (normK 60 (.code b :: .inLoop b :: k)) h
      | .scope b => wpT P K E F L fn ro n dec ds env (.code b :: .inScope b :: k) h
      | .exit id => (match exitTo id k with
        | some k' => wpT P K E F L fn ro n dec ds env k' h
        | none => if ro.isSome then F (.exit id) ds env h else False)
      | .ret => F .ret ds env h
      | .region _ ops false => wpOps P K (fun j => (ops[j]?).bind (·.dst)) ops.toList env h dec fun env' h' dec' => wpT P K E F L fn ro n dec' ds env' k h'
      | .region _ ops true => wpDraw P K ops env h fun env' h' dec' => wpT P K E F L fn ro n dec' ds env' k h'
      | .rangeFunc f ps assign body =>
        (match ro with
        | none => alc h (.marks true) fun d h1 => wpRangeL P K fn (aeval P env f) env.length (liveOf L [.code assign, .beginRound, .code body]) ((liveOf L [.code assign, .beginRound, .code body]).map fun t => env.getD t undef) ps assign body d h1 fun p h' =>
            EndX p (wpT P K E F L fn ro n dec (d :: ds) env k h') (wpT P K E F L fn ro n dec (d :: ds) env (.code .ret :: k) h') ((exitsOut body).map fun id => (id, wpT P K E F L fn ro n dec (d :: ds) env (.code (.exit id) :: k) h'))
        | some l => thn (defersOf h l) fun d => wpRangeL P K fn (aeval P env f) env.length (liveOf L [.code assign, .beginRound, .code body]) ((liveOf L [.code assign, .beginRound, .code body]).map fun t => env.getD t undef) ps assign body d h fun p h' =>
            EndX p (wpT P K E F L fn ro n dec ds env k h') (wpT P K E F L fn ro n dec ds env (.code .ret :: k) h') ((exitsOut body).map fun id => (id, wpT P K E F L fn ro n dec ds env (.code (.exit id) :: k) h')))
      | _ => False)
    | .inBlock _ :: k => wpT P K E F L fn ro n dec ds env k h
    | .inScope _ :: k => wpT P K E F L fn ro n dec ds env k h
    | .inLoop b :: k => E ds env (normK 60 (.code b :: .inLoop b :: k)) h
    | .beginRound :: k =>
      (match ro with
      | some l => thn (beginV h l) fun h' => wpT P K E F L fn ro n dec ds env k h'
      | none => False)
    | _ => False

theorem range_env {env : List Value} {n : Nat} (h : env.length = n) : (List.range n).map (fun t => env.getD t undef) = env := by
  refine List.ext_getElem? fun i => ?_
  subst h
  rw [List.getElem?_map]
  rcases Nat.lt_or_ge i env.length with hi | hi
  · rw [List.getElem?_range hi]
    simp [hi]
  · rw [List.getElem?_eq_none hi, List.getElem?_eq_none (by simpa using hi)]
    rfl
theorem lookup_map {l : List Nat} {f : Nat → Prop} {id : Nat} {q : Prop} (h : (l.map fun i => (i, f i)).lookup id = some q) : q = f id := by
  induction l with
  | nil => simp at h
  | cons i l ih =>
    simp only [List.map_cons, List.lookup_cons] at h
    by_cases e : id == i
    · simp only [e] at h; cases h; simp at e; rw [e]
    · simp only [Bool.not_eq_true] at e; simp only [e] at h; exact ih h
theorem EndX_sound {p : Option Code} {E : List Item → Prop} {k : List Item} {l : List Nat} (h : EndX p (E k) (E (.code .ret :: k)) (l.map fun id => (id, E (.code (.exit id) :: k)))) : E ((p.map Item.code).toList ++ k) := by
  unfold EndX at h
  split at h
  · exact h
  · exact h
  · split at h
    · rename_i hl; have := lookup_map hl; subst this; exact h
    · cases h
  · cases h
theorem wpRangeL_sound {fn : FuncId} {f : Value} {env : List Value} {lv : List Nat} {ps : Array Tmp} {assign body : Code} {d : Nat} {h : AH} {q : Option Code → AH → Prop}
    (hw : wpRangeL P K fn f env.length lv (lv.map fun t => env.getD t undef) ps assign body d h q) :
    ∃ n g first captured o h3 p h4, f = .func (.func g) first captured ∧ callable P g = true ∧ run P K n (.call g (first.toList ++ [.func (.yield h.next) #[] #[]] ++ captured.toList)) (h.alloc (.loop .ready none fn env ps assign body d)) = some (o, h3) ∧
      endV h3 h.next = some (p, h4) ∧ q p h4 := by
  have := hw (fun t => env.getD t undef) rfl
  rw [range_env rfl] at this
  unfold alc OkR at this
  split at this
  · rename_i g first captured
    obtain ⟨hc, n, r, h1, ⟨p, h4⟩, h2, h3⟩ := this
    exact ⟨n, g, first, captured, r.1, r.2, p, h4, rfl, hc, h1, h2, h3⟩
  · cases this
theorem norm_sound {fn : FuncId} {ro : Option Nat} {ds : List Nat} {env : List Value} {h : AH} {Q : Out → AH → Prop} : ∀ (n : Nat) {k : List Item}, Ok P K (.todo fn ro ds env (normK n k)) h Q → Ok P K (.todo fn ro ds env k) h Q
  | 0, _, hw => hw
  | n + 1, k, hw => by
    have st : ∀ {k' : List Item}, Ok P K (.todo fn ro ds env (normK n k')) h Q → (∀ m, run P K (m + 1) (.todo fn ro ds env k) h = run P K m (.todo fn ro ds env k') h) → Ok P K (.todo fn ro ds env k) h Q :=
      fun hw hs => ok_step hs (norm_sound n hw)
    unfold normK at hw
    split at hw
    · split at hw
      · exact st hw fun _ => rfl
      · exact st hw fun _ => rfl
      · exact st hw fun _ => rfl
      · exact st hw fun _ => rfl
      · exact st hw fun _ => rfl
      · exact st hw fun _ => rfl
      · split at hw
        · rename_i hx
          refine st hw fun m => ?_
          show runTodo P (run P K m) _ _ _ _ _ _ = _
          simp only [runTodo, hx]
        · exact hw
      · exact hw
    · exact st hw fun _ => rfl
    · exact st hw fun _ => rfl
    · exact st hw fun _ => rfl
    · exact hw
theorem knownB_sound {dec : Dec} {env : List Value} (hd : dec.ok env) {c : Operand} {b : Bool} (h : knownB dec c = some b) : aeval P env c = .bool b := by
  unfold knownB at h
  split at h
  · cases h; simp [aeval, plainV]
  · split at h
    · rename_i hl; cases h; have := hd _ _ (Dec.find hl); simp [aeval, List.getD_eq_getElem?_getD, this, decV]
    · cases h
  · cases h
theorem wpT_sound {E : List Nat → List Value → List Item → AH → Prop} {F : Leave → List Nat → List Value → AH → Prop} {L : List (Option Nat × List Nat)} {fn : FuncId} {ro : Option Nat} {Q : Out → AH → Prop}
    (hE : ∀ ds env k h, E ds env k h → Ok P K (.todo fn ro ds env k) h Q) (hF : ∀ lv ds env h, F lv ds env h → Q ⟨lv, ds, env, undef⟩ h) :
    ∀ (n : Nat) {dec : Dec} {ds : List Nat} {env : List Value} {k : List Item} {h : AH}, dec.ok env → wpT P K E F L fn ro n dec ds env k h → Ok P K (.todo fn ro ds env k) h Q
  | 0, dec, ds, env, k, h, _, hw => hE _ _ _ _ hw
  | n + 1, dec, ds, env, k, h, hd, hw => by
    have IH : ∀ {dec : Dec} {ds : List Nat} {env : List Value} {k : List Item} {h : AH}, dec.ok env → wpT P K E F L fn ro n dec ds env k h → Ok P K (.todo fn ro ds env k) h Q := fun d x => wpT_sound hE hF n d x
    have st : ∀ {k' : List Item}, wpT P K E F L fn ro n dec ds env k' h → (∀ m, run P K (m + 1) (.todo fn ro ds env k) h = run P K m (.todo fn ro ds env k') h) → Ok P K (.todo fn ro ds env k) h Q :=
      fun hw hs => ok_step hs (IH hd hw)
    have go : ∀ {k' : List Item}, (match short k' with
          | true => wpT P K E F L fn ro n dec ds env k' h
          | false => E ds env (normK 60 k') h) → Ok P K (.todo fn ro ds env k') h Q := by
      intro k' hk
      split at hk
      · exact IH hd hk
      · exact norm_sound 60 (hE _ _ _ _ hk)
    unfold wpT at hw
    split at hw
    · exact ⟨1, _, rfl, hF _ _ _ _ hw⟩
    · rename_i c k
      split at hw
      · exact st hw fun _ => rfl
      · exact st hw fun _ => rfl
      · exact st hw fun _ => rfl
      · rename_i c t e
        split at hw
        · rename_i hk
          exact ok_cond (Br_bool' (b := true) (fun _ => IH hd hw) (by simp) |> fun x => by rw [knownB_sound hd hk]; exact x)
        · rename_i hk
          exact ok_cond (Br_bool' (b := false) (by simp) (fun _ => IH hd hw) |> fun x => by rw [knownB_sound hd hk]; exact x)
        · exact ok_cond (let ⟨b, x, y, z⟩ := hw; ⟨b, x, fun t => go (y t), fun t => go (z t)⟩)
      · exact st hw fun _ => rfl
      · rename_i b
        exact ok_step (t' := .todo fn ro ds env (.code b :: .inLoop b :: k)) (fun _ => rfl) (norm_sound 60 (hE _ _ _ _ hw))
      · exact st hw fun _ => rfl
      · rename_i id
        split at hw
        · rename_i k' hx
          refine st hw fun m => ?_
          show runTodo P (run P K m) _ _ _ _ _ _ = _
          simp only [runTodo, hx]
        · rename_i hx
          split at hw
          · rename_i hro
            refine ⟨1, (⟨.exit id, ds, env, undef⟩, h), ?_, hF _ _ _ _ hw⟩
            show runTodo P (run P K 0) _ _ _ _ _ _ = _
            simp only [runTodo, hx, hro, if_true]
          · cases hw
      · exact ⟨1, _, rfl, hF _ _ _ _ hw⟩
      · exact ok_region hd (fun e g d hd hh => IH hd hh) hw
      · exact ok_draw (fun e g d hd hh => IH hd hh) hw
      · rename_i f ps assign body
        split at hw
        · unfold alc at hw
          obtain ⟨n1, g, first, captured, o, h3, p, h4, hf, hc, hr, he, hw⟩ := wpRangeL_sound hw
          obtain ⟨n2, r, hr2, hq⟩ := IH hd (EndX_sound (E := fun k => wpT P K E F L fn none n dec _ env k h4) hw)
          refine ⟨max n1 n2 + 1, r, ?_, hq⟩
          show runTodo P (run P K (max n1 n2)) _ _ _ _ _ _ = _
          unfold endV at he
          split at he
          · rename_i hl
            split at he
            · cases he
            · rename_i hb
              simp only [Option.map_eq_some_iff] at he
              obtain ⟨h5, he, h6⟩ := he
              cases h6
              simp only [runTodo, hf, hc, if_true]
              rw [run_mono (Nat.le_max_left n1 n2) _ _ _ hr]
              simp only [hl, hb, if_false, he]
              exact run_mono (Nat.le_max_right n1 n2) _ _ _ hr2
          · cases he
        · rename_i l
          obtain ⟨d, hdf, hw⟩ := hw
          obtain ⟨n1, g, first, captured, o, h3, p, h4, hf, hc, hr, he, hw⟩ := wpRangeL_sound hw
          obtain ⟨n2, r, hr2, hq⟩ := IH hd (EndX_sound (E := fun k => wpT P K E F L fn (some l) n dec _ env k h4) hw)
          refine ⟨max n1 n2 + 1, r, ?_, hq⟩
          show runTodo P (run P K (max n1 n2)) _ _ _ _ _ _ = _
          unfold endV at he
          unfold defersOf at hdf
          split at hdf
          · rename_i hd0
            cases hdf
            split at he
            · rename_i hl
              split at he
              · cases he
              · rename_i hb
                simp only [Option.map_eq_some_iff] at he
                obtain ⟨h5, he, h6⟩ := he
                cases h6
                simp only [runTodo, hd0, hf, hc, if_true]
                rw [run_mono (Nat.le_max_left n1 n2) _ _ _ hr]
                simp only [hl, hb, if_false, he]
                exact run_mono (Nat.le_max_right n1 n2) _ _ _ hr2
            · cases he
          · cases hdf
      · cases hw
    · exact st hw fun _ => rfl
    · exact st hw fun _ => rfl
    · rename_i b k
      exact ok_step (t' := .todo fn ro ds env (.code b :: .inLoop b :: k)) (fun _ => rfl) (norm_sound 60 (hE _ _ _ _ hw))
    · rename_i k
      split at hw
      · rename_i l
        obtain ⟨h', h1, h2⟩ := hw
        unfold beginV at h1
        split at h1
        · rename_i hg
          refine ok_step (t' := .todo fn (some l) ds env k) (h' := h') (fun m => ?_) (IH hd h2)
          show runTodo P (run P K m) _ _ _ _ _ _ = _
          simp only [runTodo, hg, h1]
        · cases h1
      · cases hw
    · cases hw

/-! ### Calls -/
def retV (P : Program) (f : FuncId) (Q : Value → AH → Prop) : Out → AH → Prop := fun o h1 =>
  match o.leave with
  | .exit _ => False
  | _ => thn (closeMarks o.ds h1) fun h2 => thn (aresults P h2 o.env ((P.funcs[f]?).elim [] fun fn => fn.results.toList)) fun vs => Q (oneOf vs) h2
theorem ok_call {f : FuncId} {fn : Func} {body : Code} {args : List Value} {h : AH} {Q : Value → AH → Prop} (hf : P.funcs[f]? = some fn) (hb : fn.body = some body) (hK : K f args = none)
    (hw : Ok P K (.todo f none [] (args ++ List.replicate (fn.ntmps - args.length) undef) [.code body]) h (retV P f Q)) : Ok P K (.call f args) h fun o h' => Q o.v h' := by
  obtain ⟨n, ⟨o, g⟩, h1, h2⟩ := hw
  simp only at h2
  have key : (∀ id, o.leave ≠ .exit id) → (thn (closeMarks o.ds g) fun h2 => thn (aresults P h2 o.env ((P.funcs[f]?).elim [] fun fn => fn.results.toList)) fun vs => Q (oneOf vs) h2) → Ok P K (.call f args) h fun o h' => Q o.v h' := by
    intro hne ⟨h3, hc, vs, hv, hq⟩
    rw [hf] at hv
    simp only [Option.elim_some] at hv
    refine ⟨n + 1, (⟨.fell, [], [], oneOf vs⟩, h3), ?_, hq⟩
    show runCall P K (run P K n) f args h = _
    simp only [runCall, hK, hf, hb]
    rw [h1]
    cases hlv : o.leave with
    | exit id => exact absurd hlv (hne id)
    | fell => simp only [hlv, hc, hv]; rfl
    | ret => simp only [hlv, hc, hv]; rfl
  unfold retV at h2
  split at h2
  · cases h2
  · rename_i hne
    exact key (fun id he => hne id he) h2
/-! ### Places, what is alive there, and where a function leaves -/
/-- a place of a function: what is said is 'vs', the values of 'lv' -/
def Pt (P : Program) (K : FuncId → List Value → Option Ans) (fn : FuncId) (ro : Option Nat) (Q : Out → AH → Prop) (n : Nat) (lv : List Nat) (k : List Item) (ds : List Nat) (vs : List Value) (h : AH) : Prop :=
  ∀ e : Nat → Value, lv.map e = vs → Ok P K (.todo fn ro ds ((List.range n).map e) k) h Q
def ptE (P : Program) (K : FuncId → List Value → Option Ans) (fn : FuncId) (ro : Option Nat) (Q : Out → AH → Prop) (L : List (Option Nat × List Nat)) (ds : List Nat) (env : List Value) (k : List Item) (h : AH) : Prop :=
  Pt P K fn ro Q env.length ((L.lookup (keyOf k)).getD []) k ds (((L.lookup (keyOf k)).getD []).map fun t => env.getD t undef) h
theorem ptE_sound {fn : FuncId} {ro : Option Nat} {Q : Out → AH → Prop} {L : List (Option Nat × List Nat)} {ds : List Nat} {env : List Value} {k : List Item} {h : AH} (hp : ptE P K fn ro Q L ds env k h) : Ok P K (.todo fn ro ds env k) h Q := by
  have := hp (fun t => env.getD t undef) rfl
  rwa [range_env rfl] at this
/-- the results, read where the function leaves -/
def resE (P : Program) (h : AH) (env : List Value) : List ResultVar → (List Value → Prop) → Prop
  | [], p => p []
  | .tmp t :: rs, p => resE P h env rs fun l => p (env.getD t undef :: l)
  | .cell a t :: rs, p => match aggOf P t with
    | some true => thn (ldN h (P.cellsOf t) (env.getD a undef)) fun v => resE P h env rs fun l => p (v :: l)
    | some false => thn (ld1 h (env.getD a undef)) fun v => resE P h env rs fun l => p (v :: l)
    | none => False
theorem resE_sound {h : AH} {env : List Value} : ∀ {rs : List ResultVar} {p : List Value → Prop}, resE P h env rs p → ∃ l, aresults P h env rs = some l ∧ p l
  | [], p, hw => ⟨[], rfl, hw⟩
  | .tmp t :: rs, p, hw => by
    obtain ⟨l, h1, h2⟩ := resE_sound (rs := rs) hw
    exact ⟨_, by simp only [aresults, h1]; rfl, h2⟩
  | .cell a t :: rs, p, hw => by
    simp only [resE] at hw
    split at hw
    · rename_i ha
      obtain ⟨v, h1, hw⟩ := hw
      obtain ⟨l, h2, h3⟩ := resE_sound (rs := rs) hw
      refine ⟨v :: l, ?_, h3⟩
      unfold ldN at h1
      split at h1
      · rename_i x he
        have hl : aload P h t x = some v := by unfold aload; rw [ha]; exact h1
        simp only [aresults, he, hl, h2]
      · cases h1
    · rename_i ha
      obtain ⟨v, h1, hw⟩ := hw
      obtain ⟨l, h2, h3⟩ := resE_sound (rs := rs) hw
      refine ⟨v :: l, ?_, h3⟩
      unfold ld1 at h1
      split at h1
      · rename_i x he
        have hl : aload P h t x = some v := by unfold aload; rw [ha]; exact h1
        simp only [aresults, he, hl, h2]
      · cases h1
    · cases hw
def retE (P : Program) (f : FuncId) (Q : Value → AH → Prop) (lv : Leave) (ds : List Nat) (env : List Value) (h : AH) : Prop := match lv with
  | .exit _ => False
  | _ => (match ds with
    | [] => resE P h env ((P.funcs[f]?).elim [] fun fn => fn.results.toList) fun l => Q (oneOf l) h
    | d :: ds => thn (closeMarks (d :: ds) h) fun h2 => resE P h2 env ((P.funcs[f]?).elim [] fun fn => fn.results.toList) fun l => Q (oneOf l) h2)
theorem retE_sound {f : FuncId} {Q : Value → AH → Prop} {lv : Leave} {ds : List Nat} {env : List Value} {h : AH} (hw : retE P f Q lv ds env h) : retV P f Q ⟨lv, ds, env, undef⟩ h := by
  have key : ∀ {h2 : AH} (hc : closeMarks ds h = some h2), (resE P h2 env ((P.funcs[f]?).elim [] fun fn => fn.results.toList) fun l => Q (oneOf l) h2) →
      thn (closeMarks ds h) fun h2 => thn (aresults P h2 env ((P.funcs[f]?).elim [] fun fn => fn.results.toList)) fun vs => Q (oneOf vs) h2 := by
    intro h2 hc hr
    obtain ⟨l, h3, h4⟩ := resE_sound hr
    exact ⟨h2, hc, l, h3, h4⟩
  unfold retE at hw
  unfold retV
  cases lv with
  | exit id => exact hw
  | fell =>
    cases ds with
    | nil => exact key rfl hw
    | cons d ds => obtain ⟨h2, hc, hw⟩ := hw; exact key hc hw
  | ret =>
    cases ds with
    | nil => exact key rfl hw
    | cons d ds => obtain ⟨h2, hc, hw⟩ := hw; exact key hc hw
/-- A block of a function. -/
theorem block_fn {f : FuncId} {Q : Value → AH → Prop} {L : List (Option Nat × List Nat)} (n : Nat) {ds : List Nat} {env : List Value} {k : List Item} {h : AH}
    (hw : wpT P K (ptE P K f none (retV P f Q) L) (retE P f Q) L f none n [] ds env k h) : Ok P K (.todo f none ds env k) h (retV P f Q) :=
  wpT_sound (fun _ _ _ _ h => ptE_sound h) (fun _ _ _ _ h => retE_sound h) n (fun t b hm => by cases hm) hw

/-- where a function with ranges over functions leaves -/
def retD (P : Program) (f : FuncId) (Q : Value → AH → Prop) (lv : Leave) (ds : List Nat) (env : List Value) (h : AH) : Prop := match lv with
  | .exit _ => False
  | _ => thn (closeMarks ds h) fun h2 => resE P h2 env ((P.funcs[f]?).elim [] fun fn => fn.results.toList) fun l => Q (oneOf l) h2
theorem retD_sound {f : FuncId} {Q : Value → AH → Prop} {lv : Leave} {ds : List Nat} {env : List Value} {h : AH} (hw : retD P f Q lv ds env h) : retV P f Q ⟨lv, ds, env, undef⟩ h := by
  unfold retD at hw
  unfold retV
  cases lv with
  | exit id => exact hw
  | fell => obtain ⟨h2, hc, hw⟩ := hw; obtain ⟨l, h3, h4⟩ := resE_sound hw; exact ⟨h2, hc, l, h3, h4⟩
  | ret => obtain ⟨h2, hc, hw⟩ := hw; obtain ⟨l, h3, h4⟩ := resE_sound hw; exact ⟨h2, hc, l, h3, h4⟩
theorem block_fnD {f : FuncId} {Q : Value → AH → Prop} {L : List (Option Nat × List Nat)} (n : Nat) {ds : List Nat} {env : List Value} {k : List Item} {h : AH}
    (hw : wpT P K (ptE P K f none (retV P f Q) L) (retD P f Q) L f none n [] ds env k h) : Ok P K (.todo f none ds env k) h (retV P f Q) :=
  wpT_sound (fun _ _ _ _ h => ptE_sound h) (fun _ _ _ _ h => retD_sound h) n (fun t b hm => by cases hm) hw
theorem ok_host {f : FuncId} {args : List Value} {F : AH → Option (Value × AH)} {v : Value} {h h' : AH} {Q : Value → AH → Prop} (hK : K f args = some (.host F)) (hF : F h = some (v, h')) (hw : Q v h') : Ok P K (.call f args) h fun o h' => Q o.v h' :=
  ⟨1, (⟨.fell, [], [], v⟩, h'), by show runCall _ _ _ _ _ _ = _; simp only [runCall, hK, hF, Option.map_some], hw⟩
theorem ok_known {f : FuncId} {args : List Value} {v : Value} {h : AH} {Q : Value → AH → Prop} (hK : K f args = some (.val v)) (hw : Q v h) : Ok P K (.call f args) h fun o h' => Q o.v h' :=
  ⟨1, (⟨.fell, [], [], v⟩, h), by show runCall _ _ _ _ _ _ = _; simp only [runCall, hK], hw⟩

/-! ### Rounds of a loop over a function -/
def roundOut (l : Nat) (Q : Value → AH → Prop) : Out → AH → Prop := fun o h1 =>
  o.ds = [] ∧ match o.leave with
  | .fell => thn (setLoop h1 l .ready (some none)) fun h2 => Q (.bool true) h2
  | .ret => thn (setLoop h1 l .done (some (some .ret))) fun h2 => Q (.bool false) h2
  | .exit id => thn (setLoop h1 l .done (some (some (.exit id)))) fun h2 => Q (.bool false) h2
theorem ok_round {l : Nat} {args : List Value} {h : AH} {st : LoopState} {p : Option Code} {fn : FuncId} {tmps : List Value} {ps : Array Tmp} {assign body : Code} {d : Nat} {Q : Value → AH → Prop}
    (hg : h.get l = some (.loop st p fn tmps ps assign body d)) (hl : args.length = ps.size)
    (hw : Ok P K (.todo fn (some l) [] ((ps.toList.zip args).foldl (fun t (p, v) => t.set p v) tmps) [.code assign, .beginRound, .code body]) h (roundOut l Q)) : Ok P K (.round l args) h fun o h' => Q o.v h' := by
  obtain ⟨n, r, h1, h2, h3⟩ := hw
  obtain ⟨o, h4⟩ := r
  simp only at h2 h3
  have key : ∀ o' h5, (match o.leave with
          | .fell => (setLoop h4 l .ready (some none)).map fun h2 => ((⟨.fell, [], [], .bool true⟩ : Out), h2)
          | .ret => (setLoop h4 l .done (some (some .ret))).map fun h2 => (⟨.fell, [], [], .bool false⟩, h2)
          | .exit id => (setLoop h4 l .done (some (some (.exit id)))).map fun h2 => (⟨.fell, [], [], .bool false⟩, h2)) = some (o', h5) → Q o'.v h5 → Ok P K (.round l args) h fun o h' => Q o.v h' := by
    intro o' h5 he hq
    refine ⟨n + 1, (o', h5), ?_, hq⟩
    show runRound (run P K n) l args h = _
    simp only [runRound, hg, hl, if_true]
    rw [h1]
    simp only [h2, List.isEmpty_nil, if_true]
    exact he
  split at h3
  · rename_i hlv
    obtain ⟨h5, h6, h7⟩ := h3
    exact key _ _ (by simp only [hlv, h6]; rfl) h7
  · rename_i hlv
    obtain ⟨h5, h6, h7⟩ := h3
    exact key _ _ (by simp only [hlv, h6]; rfl) h7
  · rename_i hlv
    obtain ⟨h5, h6, h7⟩ := h3
    exact key _ _ (by simp only [hlv, h6]; rfl) h7

/-- where a round leaves -/
def roundE (l : Nat) (Q : Value → AH → Prop) (lv : Leave) (ds : List Nat) (_env : List Value) (h : AH) : Prop := match ds with
  | [] => (match lv with
    | .fell => thn (setLoop h l .ready (some none)) fun h2 => Q (.bool true) h2
    | .ret => thn (setLoop h l .done (some (some .ret))) fun h2 => Q (.bool false) h2
    | .exit id => thn (setLoop h l .done (some (some (.exit id)))) fun h2 => Q (.bool false) h2)
  | _ => False
theorem roundE_sound {l : Nat} {Q : Value → AH → Prop} {lv : Leave} {ds : List Nat} {env : List Value} {h : AH} (hw : roundE l Q lv ds env h) : roundOut l Q ⟨lv, ds, env, undef⟩ h := by
  unfold roundE at hw
  cases ds with
  | nil => refine ⟨rfl, ?_⟩; cases lv <;> exact hw
  | cons d ds => exact hw.elim
theorem block_round {f : FuncId} {l : Nat} {Q : Value → AH → Prop} {L : List (Option Nat × List Nat)} (n : Nat) {ds : List Nat} {env : List Value} {k : List Item} {h : AH}
    (hw : wpT P K (ptE P K f (some l) (roundOut l Q) L) (roundE l Q) L f (some l) n [] ds env k h) : Ok P K (.todo f (some l) ds env k) h (roundOut l Q) :=
  wpT_sound (fun _ _ _ _ h => ptE_sound h) (fun _ _ _ _ h => roundE_sound h) n (fun t b hm => by cases hm) hw
/-- a round is entered -/
theorem enter_round {l : Nat} {args : List Value} {h : AH} {st : LoopState} {p : Option Code} {fn : FuncId} {n : Nat} {e : Nat → Value} {ps : Array Tmp} {assign body : Code} {d : Nat} {lv : List Nat} {vs : List Value} {Q : Value → AH → Prop}
    (hg : h.get l = some (.loop st p fn ((List.range n).map e) ps assign body d)) (hl : args.length = ps.size)
    (hv : (lv.map fun t => (((ps.toList.zip args).foldl (fun t (p, v) => t.set p v) ((List.range n).map e))).getD t undef) = vs) (hn : ((ps.toList.zip args).foldl (fun t (p, v) => t.set p v) ((List.range n).map e)).length = n)
    (H : Pt P K fn (some l) (roundOut l Q) n lv [.code assign, .beginRound, .code body] [] vs h) : Ok P K (.round l args) h fun o h' => Q o.v h' := by
  refine ok_round hg hl ?_
  have := H _ hv
  rwa [range_env hn] at this


end
end Go.Ab
end
section
namespace Go.Ab
noncomputable section
open Go.RowKit
variable {P : Program} {K : FuncId → List Value → Option Ans}

def start (base : Nat) (old : Nat → Option Blk) : AH := { base := base, next := base, old := old, new := .lf }
theorem start_get {base : Nat} {old : Nat → Option Blk} (i : Nat) : (start base old).get i = if i < base then old i else none := by
  rw [AH.get_eq]; unfold start
  split
  · rfl
  · cases i - base <;> rfl

/-- what is read of a world -/
structure Reads (P : Program) (base : Nat) (old : Nat → Option Blk) (ρ : Rho) (w : World) : Prop where
  blk : ∀ i o, i < base → old i = some o → ∀ b s, ρ i = some (b, s) → ∃ o', w.heap[b]? = some o' ∧ BRel P ρ s o o'
  low : ∀ i b s, i < base → ρ i = some (b, s) → b < w.heap.size
  none : ∀ i, base ≤ i → ρ i = none
  glob : ∀ g, g < P.globals.size → ρ g = some (g, (0, 0))
theorem Reads.inv {base : Nat} {old : Nat → Option Blk} {ρ : Rho} {w : World} (r : Reads P base old ρ w) : Inv P w.heap.size ρ (start base old) w where
  blk := fun i o hg b s hr => by
    rw [start_get] at hg
    split at hg
    · rename_i hi; exact r.blk i o hi hg b s hr
    · cases hg
  inj := fun i j b si sj hi _ gi => by
    rw [start_get, if_neg (Nat.not_lt.2 (show base ≤ _ from hi))] at gi; cases gi
  low := fun i b s hi gi => by
    rw [start_get, if_neg (Nat.not_lt.2 (show base ≤ _ from hi))] at gi; cases gi
  old := fun i b s hi hr => r.low i b s hi hr
  fresh := fun i hi => r.none i hi
  freshG := fun i hi => by rw [start_get, if_neg (Nat.not_lt.2 (show base ≤ _ from hi))]
  glob := r.glob
  size := Nat.le_refl _
  bn := Nat.le_refl _

/-- A CALL OF THE ABSTRACT MACHINE IS ONE OF THE MODEL'S. -/
theorem calls_of {w : World} (C : Ctx P w.heap.size K) (hg : C.G w) {base : Nat} {old : Nat → Option Blk} {ρ : Rho} (r : Reads P base old ρ w) {f : FuncId} {args args' : List Value} (ha : LRel ρ args args') {Q : Out → AH → Prop}
    (hok : Ok P K (.call f args) (start base old) Q) :
    Calls P f ⟨args'⟩ w fun e w' => ∃ ρ' o h' v', e = .returned v' ∧ VRel ρ' o.v v' ∧ Q o h' ∧ Inv P w.heap.size ρ' h' w' ∧ Below w.heap.size w w' := by
  obtain ⟨n, ⟨o, h'⟩, hr, hq⟩ := hok
  intro cs
  obtain ⟨e, w', fr, ⟨ρ', v', he, hv, hevo⟩, h1, h2, h3⟩ := run_sound C n (.call f args) _ o h' hr ρ w args' r.inv hg ha cs
  exact ⟨e, w', fr, ⟨ρ', o, h', v', he, hv, hq, hevo.inv, hevo.below r.inv⟩, h1, h2, h3⟩

/-- nothing is known -/
def Ctx.empty (P : Program) (B : Nat) : Ctx P B (fun _ _ => none) where
  G := fun _ => True
  keep := fun _ _ _ _ => trivial
  call := fun _ _ _ _ h => by cases h
  fwd := fun _ _ _ _ h => by cases h
  host := fun _ _ _ h => by cases h
/-- one call more: its value -/
def addK (K : FuncId → List Value → Option Ans) (f0 : FuncId) (v0 : Value) : FuncId → List Value → Option Ans := fun f args => if f = f0 ∧ args.isEmpty = true then some (.val v0) else K f args
def Ctx.add {B : Nat} (C : Ctx P B K) (f0 : FuncId) (v0 : Value) (hp : plainV v0 = true) (h : ∀ w, C.G w → Calls P f0 #[] w fun e w' => e = .returned v0 ∧ Below w.heap.size w w') : Ctx P B (addK K f0 v0) where
  G := C.G
  keep := C.keep
  call := fun f args v w hk hg => by
    unfold addK at hk
    split at hk
    · rename_i hc
      cases hk
      obtain ⟨rfl, ha⟩ := hc
      have : args = [] := by cases args with | nil => rfl | cons _ _ => cases ha
      subst this
      exact ⟨rfl, (h w hg).mono fun e w' ⟨he, hb⟩ => ⟨⟨v0, he, fun ρ => plainV_rel v0 hp⟩, hb⟩⟩
    · exact C.call f args v w hk hg
  fwd := fun f args g bs hk => by
    unfold addK at hk
    split at hk
    · cases hk
    · exact C.fwd f args g bs hk
  host := fun f args F hk => by
    unfold addK at hk
    split at hk
    · cases hk
    · exact C.host f args F hk

theorem call_plain {P : Program} {f : FuncId} {args : Array Value} {v : Value} {w : World} (hp : plainV v = true) (h : Calls P f args w fun e w' => e = .returned v ∧ Below w.heap.size w w') :
    Calls P f args w fun e w' => (∃ v', e = .returned v' ∧ ∀ ρ, VRel ρ v v') ∧ Below w.heap.size w w' :=
  h.mono fun _ _ ⟨he, hb⟩ => ⟨⟨v, he, fun _ => plainV_rel v hp⟩, hb⟩
/-- A CLOSED CALL: it is run once. -/
theorem closed_call {f : FuncId} {n : Nat} {v : Value} {base : Nat} {old : Nat → Option Blk} (hv : plainV v = true)
    (hr : ((run P K n (.call f []) (start base old)).any fun r => veq r.1.v v) = true) {w : World} (C : Ctx P w.heap.size K) (hg : C.G w) {ρ : Rho} (r : Reads P base old ρ w) :
    Calls P f #[] w fun e w' => e = .returned v ∧ Below w.heap.size w w' := by
  rw [Option.any_eq_true] at hr
  obtain ⟨⟨o, h'⟩, hr, he⟩ := hr
  have he := veq_eq _ _ he
  have := calls_of (Q := fun o _ => o.v = v) C hg r (args := []) (args' := []) rfl ⟨n, _, hr, he⟩
  intro cs
  obtain ⟨e, w', fr, ⟨ρ', o', h2, v', h3, h4, h5, _, h6⟩, h7⟩ := this cs
  rw [h5] at h4
  have := plainV_eq v v' hv h4
  exact ⟨e, w', fr, ⟨by rw [h3, this], h6⟩, h7⟩

end
end Go.Ab
end
section
namespace Go.Ab
noncomputable section
variable {P : Program} {K : FuncId → List Value → Option Ans}

def sub : Code → List Nat → Code
  | c, [] => c
  | .seq a _, 0 :: p => sub a p
  | .seq _ b, 1 :: p => sub b p
  | .cond _ t _, 0 :: p => sub t p
  | .cond _ _ e, 1 :: p => sub e p
  | .block _ b, 0 :: p => sub b p
  | .loop b, 0 :: p => sub b p
  | .scope b, 0 :: p => sub b p
  | .rangeFunc _ _ a _, 0 :: p => sub a p
  | .rangeFunc _ _ _ b, 1 :: p => sub b p
  | _, _ => .skip
def bodyOf (P : Program) (f : FuncId) : Option Code := (P.funcs[f]?).bind (·.body)
def ntm (P : Program) (f : FuncId) : Nat := (P.funcs[f]?).elim 0 (·.ntmps)
def cd (P : Program) (f : FuncId) (p : List Nat) : Code := sub ((bodyOf P f).getD .skip) p
/-- a call, by name -/
def Cl (P : Program) (K : FuncId → List Value → Option Ans) (f : FuncId) (args : List Value) (h : AH) (Q : Value → AH → Prop) : Prop := Ok P K (.call f args) h fun o h' => Q o.v h'
theorem Cl.mono {f : FuncId} {args : List Value} {h : AH} {Q Q' : Value → AH → Prop} (k : Cl P K f args h Q) (hq : ∀ v h', Q v h' → Q' v h') : Cl P K f args h Q' := Ok.mono k fun _ _ => hq _ _
theorem ok_enter {f : FuncId} {args : List Value} {h : AH} {Q : Value → AH → Prop} (hb : (bodyOf P f).isSome = true) (hK : K f args = none)
    (hw : Ok P K (.todo f none [] (args ++ List.replicate (ntm P f - args.length) undef) (normK 60 [.code (cd P f [])])) h (retV P f Q)) : Cl P K f args h Q := by
  unfold bodyOf at hb
  cases hf : P.funcs[f]? with
  | none => rw [hf] at hb; cases hb
  | some fn =>
    cases hc : fn.body with
    | none => rw [hf] at hb; simp [hc] at hb
    | some body =>
      refine ok_call hf hc hK (norm_sound 60 ?_)
      have h1 : cd P f [] = body := by simp [cd, bodyOf, hf, hc, sub]
      have h2 : ntm P f = fn.ntmps := by simp [ntm, hf]
      rw [h1, h2] at hw
      exact hw
/-- the record of a range over a function at a place -/
def lpB (P : Program) (f : FuncId) (p : List Nat) (n : Nat) (e : Nat → Value) (d : Nat) (st : LoopState) (pd : Option Code) : Blk := match cd P f p with
  | .rangeFunc _ ps a b => .loop st pd f ((List.range n).map e) ps a b d
  | _ => .marks false
/-- a round is entered -/
theorem enter_rd {f : FuncId} {p : List Nat} {l n : Nat} {args : List Value} {h : AH} {st : LoopState} {pd : Option Code} {e : Nat → Value} {d : Nat} {lv : List Nat} {vs : List Value} {Q : Value → AH → Prop} {g : Operand} {ps : Array Tmp} {assign body : Code}
    (hc : cd P f p = .rangeFunc g ps assign body) (hg : h.get l = some (lpB P f p n e d st pd)) (hl : args.length = ps.size)
    (hv : (lv.map fun t => (((ps.toList.zip args).foldl (fun t (p, v) => t.set p v) ((List.range n).map e))).getD t undef) = vs)
    (H : Pt P K f (some l) (roundOut l Q) n lv (normK 60 [.code assign, .beginRound, .code body]) [] vs h) : Ok P K (.round l args) h fun o h' => Q o.v h' := by
  unfold lpB at hg
  rw [hc] at hg
  have hn : ∀ (ps : List (Tmp × Value)) (l : List Value), (ps.foldl (fun t (p, v) => t.set p v) l).length = l.length := by
    intro ps
    induction ps with
    | nil => intro l; rfl
    | cons x ps ih => intro l; simp [List.foldl_cons, ih]
  exact enter_round hg hl hv (by rw [hn]; simp) fun e' he => norm_sound 60 (H e' he)

/-! ### As they are printed -/
abbrev I (n : Int) : Value := .int .i64 n
/-- a pointer: block, where what it belongs to begins, and how far behind that -/
def pt (b o j : Nat) : Value := .pointer (some ⟨b, o + j, none⟩)
def dcdF : Nat → Nat → List Nat → List Nat
  | 0, _, acc => acc
  | f + 1, n, acc => if n ≤ 1 then acc else dcdF f (n / 2) (n % 2 :: acc)
/-- a path, told by a number -/
def dcd (n : Nat) : List Nat := dcdF 120 n []
def rgF : Code → Operand × Array Tmp × Code × Code
  | .rangeFunc f ps a b => (f, ps, a, b)
  | _ => (.tmp 0, #[], .skip, .skip)
theorem bF {f : FuncId} {Q : Value → AH → Prop} (L : List (Option Nat × List Nat)) {env : List Value} {k : List Item} {h : AH} {T : Prop}
    (e : T = wpT P K (ptE P K f none (retV P f Q) L) (retE P f Q) L f none 200 [] [] env k h) (H : T) : Ok P K (.todo f none [] env k) h (retV P f Q) := block_fn 200 (e.mp H)
theorem bD {f : FuncId} {Q : Value → AH → Prop} (L : List (Option Nat × List Nat)) {ds : List Nat} {env : List Value} {k : List Item} {h : AH} {T : Prop}
    (e : T = wpT P K (ptE P K f none (retV P f Q) L) (retD P f Q) L f none 200 [] ds env k h) (H : T) : Ok P K (.todo f none ds env k) h (retV P f Q) := block_fnD 200 (e.mp H)
theorem bR {f : FuncId} {l : Nat} {Q : Value → AH → Prop} (L : List (Option Nat × List Nat)) {env : List Value} {k : List Item} {h : AH} {T : Prop}
    (e : T = wpT P K (ptE P K f (some l) (roundOut l Q) L) (roundE l Q) L f (some l) 200 [] [] env k h) (H : T) : Ok P K (.todo f (some l) [] env k) h (roundOut l Q) := block_round 200 (e.mp H)

end
end Go.Ab
end
