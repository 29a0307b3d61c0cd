/- A part of the proof of the statement that this folder claims, with no condition: definitions and lemmas on which the last text leans. -/
import Derived.Test.YtflmoocllahjnaaTgK
namespace Go.Proofs.Ytflmoocllahjnaa
open Go Go.Ab Go.RowKit

theorem law_ok {h : AH} (w0 : h.base ≤ h.next) {n w no : Int} {t2 : Value} {xs : List Int} (harg : ArgL h t2 xs) {Q : Value → AH → Prop} (hfin : ∀ h, Q (.bool true) h) :
    Ok Pr K (.call 3 [.agg ⟨[.int .i64 n, .int .i64 w]⟩, .int .i64 no, t2]) h fun o h' => Q o.v h' := by
  refine c3 (b3_0 ?_)
  simp only [blkOf_agg, thn_some]
  refine alc_to w0 fun h1 t1 n1 g1 => ?_
  have hi0 : idxA 2 1 (ptr0 h.next) (.int .i64 0) = some (.pointer (some ⟨h.next, 0, none⟩)) := rfl
  have hi1 : idxA 2 1 (ptr0 h.next) (.int .i64 1) = some (.pointer (some ⟨h.next, 1, none⟩)) := rfl
  have hl0 : ld1 h1 (.pointer (some ⟨h.next, 0, none⟩)) = some (.int .i64 n) := ld1_of g1 rfl
  have hl1 : ld1 h1 (.pointer (some ⟨h.next, 1, none⟩)) = some (.int .i64 w) := ld1_of g1 rfl
  simp only [hi0, hi1, hl0, hl1, thn_some]
  have hlen : lenS t2 = some (.int .i64 xs.length) := by obtain ⟨a, cap, rfl, _⟩ := harg; rfl
  have away : A3_1 Q h1 := b3_1 (awake_known (hfin h1))
  refine Ok.mono (may_ok (Q := fun v h2 => v = .bool (decide (1 ≤ n ∧ n ≤ 8 ∧ 1 ≤ w ∧ w ≤ 4)) ∧ h2 = h1) ⟨rfl, rfl⟩) ?_
  intro o6 h6 ⟨ho, hh⟩
  subst hh
  rw [ho]
  -- what there is to do
  have go : (1 ≤ n ∧ n ≤ 8 ∧ 1 ≤ w ∧ w ≤ 4) → ¬ no < 0 → ¬ (xs.length : Int) > 40 → A3_2 Q (.int .i64 no) t2 (ptr0 h.next) h6 := by
    intro hm hno hxs
    refine b3_2 ?_
    simp only [hi0, hi1, hl0, hl1, thn_some]
    refine Ok.mono (new_ok (Q := fun v h2 => ∃ c s, v = .tuple #[ptr0 c, .int .i64 0] ∧ To No h6 h2 ∧ h6.next ≤ c ∧ h6.next ≤ s ∧ CR h2 c s w (List.replicate n.toNat []) (List.replicate n.toNat none) (List.replicate n.toNat (.slice none 0 0)))
      t1.wf hm.1 hm.2.1 hm.2.2.1 hm.2.2.2 fun h2 c s t2 hc hs R => ⟨c, s, rfl, t2, hc, hs, R⟩) ?_
    intro o4 h4 ⟨c, s, ho4, t4, hc, hs, R⟩
    rw [ho4]
    simp only [extV_tuple, List.getElem?_cons_zero, List.getElem?_cons_succ, thn_some, abin_int, aint_neq, Br_bne]
    refine ⟨fun h => absurd rfl h, fun _ => ?_⟩
    rw [show ptr0 c = .pointer (some ⟨c, 0, none⟩) from rfl, abin_ptr_nil under26, thn_some, Br_false]
    have hSl : (List.replicate n.toNat ([] : Th)).length = n.toNat := by simp
    have hnn : (0 : Int) < n := by omega
    have hjl : (no % n).toNat < n.toNat := by
      have := Int.emod_lt_of_pos no hnn
      have := Int.emod_nonneg no (show n ≠ 0 by omega)
      omega
    have hcast : ((List.replicate n.toNat ([] : Th)).length : Int) = n := by rw [hSl]; omega
    have hgetj : (List.replicate n.toNat ([] : Th))[(no % n).toNat]? = some [] := by rw [List.getElem?_replicate, if_pos hjl]
    have hput : putL w [] no 99 = (0, [(no, 99)]) := by
      have : putL w [] no 99 = if w ≤ (([] : Th).length : Int) then (11, []) else (0, [] ++ [(no, 99)]) := rfl
      rw [this, if_neg (by simp; omega)]
      rfl
    have hT : ¬ Fp c s (List.replicate n.toNat none) h.next := by
      rintro (h5 | h5 | h5)
      · omega
      · omega
      · simp [List.mem_replicate] at h5
    refine put_ok (Q := fun v h8 => thn (abin Pr .neq 27 (.tmp 52) (.const (.int .i64 0)) v (.int .i64 0)) fun v10 => Br v10 (A3_3 Q h8) (A3_4 Q (.int .i64 no) t2 (ptr0 h.next) (.pointer (some ⟨c, 0, none⟩)) h8)) R (by omega) (j := (no % n).toNat) (by rw [hcast]) hgetj (by simp) fun h8 B8 vs8 t8 R8 hB8 => ?_
    rw [hput] at R8 ⊢
    simp only [abin_int, aint_neq, thn_some, Br_bne]
    refine ⟨fun h => absurd rfl h, fun _ => b3_4 ?_⟩
    have hT8 : ¬ Fp c s B8 h.next := fun hf => by
      rcases hB8 _ hf with h5 | h5
      · exact hT h5
      · have := t4.next; omega
    have hmod : (no % n).toNat = no % n := by have := Int.emod_nonneg no (show n ≠ 0 by omega); omega
    refine main_loop (n := n) (w := w) (no := no) (s := s) (c := c) (xs := xs) (by omega) hfin xs.length 0 h8 _ B8 vs8 [] none (.slice none 0 0) (by omega) (Nat.le_refl _) {
      R := R8
      n1 := by simp; omega
      w1 := ⟨by omega, by omega⟩
      good := ?_
      no0 := by omega
      watch := ?_
      two := by rw [t8.keep h.next (by have := t4.next; omega) hT, t4.get (by omega)]; exact g1
      tn := by have := t4.next; have := t8.next; omega
      tb := by rw [t8.base, t4.base, t1.base]; exact w0
      tf := hT8
      used := ⟨rfl, rfl⟩
      ulen := by simp
      arg := ((harg.to t1 w0 fun _ h => h.elim).to t4 t1.wf fun _ h => h.elim).to t8 t4.wf fun i hi => (R.fpb hi).1 }
    · intro j l hl
      rw [List.getElem?_set] at hl
      by_cases e : (no % n).toNat = j
      · rw [if_pos e, if_pos (by rw [List.length_replicate]; exact hjl)] at hl
        cases hl
        refine ⟨by simp; omega, by simp, fun p hp => ?_⟩
        have : p = (no, 99) := by simpa using hp
        subst this
        exact ⟨by omega, by rw [← e]; exact hmod.symm⟩
      · rw [if_neg e, List.getElem?_replicate] at hl
        split at hl
        · cases hl; exact ⟨by simp; omega, by simp, fun p hp => by simp at hp⟩
        · cases hl
    · refine ⟨[(no, 99)], by rw [List.getElem?_set, if_pos rfl, if_pos (by rw [List.length_replicate]; exact hjl)], ?_⟩
      unfold Watch
      rw [if_pos (by simp; omega)]
      exact ⟨[], rfl, by simp, rfl⟩
  simp only [unV_not, thn_some, Br_notb, Br_dec, Br_true, abin_int, aint_lss, aint_gtr, hlen]
  refine ⟨fun hm => ⟨fun _ => away, fun hno => ⟨fun _ => away, fun hx => go hm hno hx⟩⟩, fun _ => away⟩

end Go.Proofs.Ytflmoocllahjnaa
