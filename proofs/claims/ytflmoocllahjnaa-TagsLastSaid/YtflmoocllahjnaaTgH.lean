/- A part of the proof of the statement that this folder claims, with no condition: definitions and lemmas on which the last text leans. -/
import Derived.Test.YtflmoocllahjnaaTgG
namespace Go.Proofs.Ytflmoocllahjnaa
open Go Go.Ab

/-! ### The pure law: one set -/
structure Good (w n j : Int) (l : Th) : Prop where
  len : (l.length : Int) ≤ w
  nodup : (l.map (·.1)).Nodup
  of : ∀ p ∈ l, 0 ≤ p.1 ∧ p.1 % n = j
theorem idx_none {l : Th} {x : Int} : l.findIdx? (fun p => p.1 == x) = none ↔ x ∉ l.map (·.1) := by
  rw [List.findIdx?_eq_none_iff]
  simp only [List.mem_map, not_exists, not_and, beq_eq_false_iff_ne, ne_eq]
theorem idx_some {l : Th} {x : Int} {i : Nat} (h : l.findIdx? (fun p => p.1 == x) = some i) : i < l.length ∧ (l.map (·.1))[i]? = some x := by
  rw [List.findIdx?_eq_some_iff_getElem] at h
  obtain ⟨h1, h2, _⟩ := h
  exact ⟨h1, by simp [h1]; simpa using h2⟩
theorem map_erase {l : Th} {i : Nat} : (l.eraseIdx i).map (·.1) = (l.map (·.1)).eraseIdx i := by
  rw [List.eraseIdx_eq_take_drop_succ, List.eraseIdx_eq_take_drop_succ, List.map_append, List.map_take, List.map_drop]
theorem erase_mem {l : Th} {x : Int} {i : Nat} (hn : (l.map (·.1)).Nodup) (h : l.findIdx? (fun p => p.1 == x) = some i) : ∀ k, k ∈ (l.eraseIdx i).map (·.1) ↔ k ∈ l.map (·.1) ∧ k ≠ x := by
  intro k
  obtain ⟨h1, h2⟩ := idx_some h
  rw [map_erase]
  generalize l.map (·.1) = m at *
  rw [List.mem_eraseIdx_iff_getElem?]
  constructor
  · rintro ⟨j, hj, hk⟩
    refine ⟨List.mem_of_getElem? hk, fun e => hj ?_⟩
    subst e
    exact (List.getElem?_inj (List.getElem?_eq_some_iff.1 hk).1 hn).1 (hk.trans h2.symm)
  · rintro ⟨hk, hne⟩
    obtain ⟨j, hj⟩ := List.mem_iff_getElem?.1 hk
    refine ⟨j, fun e => hne ?_, hj⟩
    subst e; rw [h2] at hj; exact (Option.some.inj hj).symm
theorem erase_nodup {l : Th} {i : Nat} (hn : (l.map (·.1)).Nodup) : ((l.eraseIdx i).map (·.1)).Nodup := by
  rw [map_erase]; exact hn.sublist (List.eraseIdx_sublist _ _)

/-- where there is room, or the number is there, it is put -/
theorem put_good {w n j x y : Int} {l : Th} (g : Good w n j l) (hx : 0 ≤ x) (hj : x % n = j) (hroom : x ∈ l.map (·.1) ∨ (l.length : Int) < w) :
    (putL w l x y).1 = 0 ∧ Good w n j (putL w l x y).2 ∧ (putL w l x y).2 = delL l x ++ [(x, y)] := by
  have hd : ((delL l x).length : Int) < w ∧ ((delL l x).map (·.1)).Nodup ∧ (∀ p ∈ delL l x, p ∈ l) ∧ x ∉ (delL l x).map (·.1) := by
    unfold delL
    cases hf : l.findIdx? (fun p => p.1 == x) with
    | none =>
      have := idx_none.1 hf
      exact ⟨hroom.resolve_left this, g.nodup, fun p hp => hp, this⟩
    | some i =>
      obtain ⟨h1, _⟩ := idx_some hf
      have := g.len
      refine ⟨?_, erase_nodup g.nodup, fun p hp => List.mem_of_mem_eraseIdx hp, fun hm => ((erase_mem g.nodup hf x).1 hm).2 rfl⟩
      simp only
      rw [List.length_eraseIdx, if_pos h1]; omega
  have e : putL w l x y = (0, delL l x ++ [(x, y)]) := by
    show (let l1 := delL l x; if w ≤ l1.length then ((11 : Int), l1) else (0, l1 ++ [(x, y)])) = _
    simp only
    rw [if_neg (by omega)]
  rw [e]
  refine ⟨rfl, ⟨by simp; omega, ?_, ?_⟩, rfl⟩
  · simp only [List.map_append, List.map_cons, List.map_nil]
    rw [List.nodup_append]
    refine ⟨hd.2.1, by simp, ?_⟩
    intro a ha b hb
    have : b = x := by simpa using hb
    subst this
    intro e; subst e; exact hd.2.2.2 ha
  · intro p hp
    rcases List.mem_append.1 hp with h1 | h1
    · exact g.of p (hd.2.2.1 p h1)
    · have : p = (x, y) := by simpa using h1
      subst this; exact ⟨hx, hj⟩

/-- the set of the number that is watched -/
def Watch (w no : Int) (l : Th) (U : List Int) : Prop :=
  if (U.length : Int) < w then ∃ m : Th, l = (no, 99) :: m ∧ (∀ k, k ∈ m.map (·.1) ↔ k ∈ U) ∧ m.length = U.length else no ∉ l.map (·.1)

/-- what happens to a set when a number comes: its victim goes, if it must, and it is put -/
def room (w : Int) (l : Th) (x : Int) : Th := if x ∈ l.map (·.1) ∨ (l.length : Int) < w then l else delL l (l.getD 0 (0, 0)).1
theorem room_good {w n j x : Int} {l : Th} (hw : 0 < w) (g : Good w n j l) : Good w n j (room w l x) ∧ (x ∈ (room w l x).map (·.1) ∨ ((room w l x).length : Int) < w) := by
  unfold room
  split
  · rename_i h; exact ⟨g, h⟩
  · rename_i h
    have h0 : 0 < l.length := by rcases Nat.eq_zero_or_pos l.length with e | e; exact absurd (.inr (by omega)) h; exact e
    have hl := g.len
    cases l with
    | nil => simp at h0
    | cons p l =>
      have hf : (p :: l).findIdx? (fun q => q.1 == p.1) = some 0 := by simp [List.findIdx?_cons]
      have e : delL (p :: l) ((p :: l).getD 0 (0, 0)).1 = l := by simp only [List.getD_cons_zero]; unfold delL; rw [hf]; rfl
      rw [e]
      have hn := g.nodup
      simp only [List.map_cons, List.nodup_cons] at hn
      refine ⟨⟨by simp at hl; omega, hn.2, fun q hq => g.of q (List.mem_cons_of_mem _ hq)⟩, .inr (by simp at hl; omega)⟩
theorem victim_room {w x : Int} {l : Th} : vicL w l x = if x ∈ l.map (·.1) ∨ (l.length : Int) < w then .tuple #[.int .i64 0, .bool false, .int .i64 0] else .tuple #[.int .i64 (l.getD 0 (0, 0)).1, .bool true, .int .i64 0] := by
  unfold vicL
  cases hf : l.findIdx? (fun p => p.1 == x) with
  | none =>
    have h := idx_none.1 hf
    simp only [h, false_or]
  | some i =>
    have h : x ∈ l.map (·.1) := List.mem_of_getElem? (idx_some hf).2
    simp only [h, true_or, if_true]

/-- another number of the watched set comes -/
theorem watch_step {w n j no x y : Int} {l : Th} {U : List Int} (hw : 0 < w) (g : Good w n j l) (hx : 0 ≤ x) (hj : x % n = j) (hne : x ≠ no) (h : Watch w no l U) :
    Watch w no (putL w (room w l x) x y).2 (if x ∈ U then U else U ++ [x]) := by
  obtain ⟨g2, hr⟩ := room_good (x := x) hw g
  obtain ⟨_, _, e⟩ := put_good (y := y) g2 hx hj hr
  rw [e]
  unfold Watch at h
  split at h
  · rename_i hlt
    obtain ⟨m, rfl, hm, hlen⟩ := h
    have hl := g.len
    have hn := g.nodup
    simp only [List.map_cons, List.nodup_cons, List.length_cons] at hl hn
    by_cases hxU : x ∈ U
    · -- it was used before
      rw [if_pos hxU]
      have hxm : x ∈ m.map (·.1) := (hm x).2 hxU
      have hroom : room w ((no, 99) :: m) x = (no, 99) :: m := by unfold room; rw [if_pos (.inl (List.mem_cons_of_mem _ hxm))]
      rw [hroom]
      unfold Watch
      rw [if_pos hlt]
      have hdel : delL ((no, 99) :: m) x = (no, 99) :: delL m x := by
        unfold delL
        rw [List.findIdx?_cons, if_neg (by simpa using hne.symm)]
        cases hf : m.findIdx? (fun p => p.1 == x) with
        | none => simp
        | some i => simp
      rw [hdel]
      cases hf : m.findIdx? (fun p => p.1 == x) with
      | none => exact absurd hxm (idx_none.1 hf)
      | some i =>
        have hd : delL m x = m.eraseIdx i := by unfold delL; rw [hf]
        obtain ⟨h1, _⟩ := idx_some hf
        refine ⟨delL m x ++ [(x, y)], rfl, fun k => ?_, ?_⟩
        · rw [hd, List.map_append, List.mem_append, erase_mem hn.2 hf, hm k]
          simp only [List.map_cons, List.map_nil, List.mem_singleton]
          constructor
          · rintro (⟨h2, _⟩ | rfl)
            · exact h2
            · exact hxU
          · intro h2
            by_cases e2 : k = x
            · exact .inr e2
            · exact .inl ⟨h2, e2⟩
        · rw [hd]; simp only [List.length_append, List.length_eraseIdx, if_pos h1, List.length_cons, List.length_nil]; omega
    · -- a new one
      rw [if_neg hxU]
      have hxm : x ∉ m.map (·.1) := fun h2 => hxU ((hm x).1 h2)
      have hxl : x ∉ ((no, 99) :: m : Th).map (·.1) := by simp only [List.map_cons, List.mem_cons, not_or]; exact ⟨hne, hxm⟩
      by_cases hfull : (m.length : Int) + 1 < w
      · have hroom : room w ((no, 99) :: m) x = (no, 99) :: m := by unfold room; rw [if_pos (.inr (by simp; omega))]
        rw [hroom]
        have hdel : delL ((no, 99) :: m) x = (no, 99) :: m := by unfold delL; rw [idx_none.2 hxl]
        rw [hdel]
        unfold Watch
        rw [if_pos (by simp; omega)]
        refine ⟨m ++ [(x, y)], rfl, fun k => ?_, by simp [hlen]⟩
        rw [List.map_append, List.mem_append, List.mem_append, hm k]
        simp
      · have hroom : room w ((no, 99) :: m) x = m := by
          unfold room
          rw [if_neg (by rintro (h2 | h2); exact hxl h2; simp at h2; omega)]
          unfold delL
          simp [List.findIdx?_cons]
        rw [hroom]
        have hdel : delL m x = m := by unfold delL; rw [idx_none.2 hxm]
        rw [hdel]
        unfold Watch
        rw [if_neg (by simp; omega)]
        simp only [List.map_append, List.map_cons, List.map_nil, List.mem_append, List.mem_singleton, not_or]
        exact ⟨hn.1, hne.symm⟩
  · rename_i hge
    unfold Watch
    have hU : ¬ (((if x ∈ U then U else U ++ [x]).length : Int) < w) := by
      split
      · exact hge
      · simp; omega
    rw [if_neg hU]
    have h2 : ∀ l' : Th, no ∉ l'.map (·.1) → no ∉ (delL l' x ++ [(x, y)]).map (·.1) := by
      intro l' hl'
      simp only [List.map_append, List.map_cons, List.map_nil, List.mem_append, List.mem_singleton, not_or]
      refine ⟨fun hm => hl' ?_, hne.symm⟩
      unfold delL at hm
      split at hm
      · rw [map_erase] at hm; exact List.mem_of_mem_eraseIdx hm
      · exact hm
    refine h2 _ fun hm => h ?_
    unfold room at hm
    split at hm
    · exact hm
    · unfold delL at hm
      split at hm
      · rw [map_erase] at hm; exact List.mem_of_mem_eraseIdx hm
      · exact hm

/-- what is looked up -/
theorem watch_peek {w no : Int} {l : Th} {U : List Int} (h : Watch w no l U) :
    (match l.findIdx? (fun p => p.1 == no) with | some i => (.tuple #[.int .i64 (l.getD i (0, 0)).2, .int .i64 0]) | none => .tuple #[.int .i64 0, .int .i64 12] : Value) = if (U.length : Int) < w then .tuple #[.int .i64 99, .int .i64 0] else .tuple #[.int .i64 0, .int .i64 12] := by
  unfold Watch at h
  split at h
  · rename_i hlt
    obtain ⟨m, rfl, _, _⟩ := h
    rw [if_pos hlt]
    simp [List.findIdx?_cons]
  · rename_i hge
    rw [if_neg hge, idx_none.2 h]

end Go.Proofs.Ytflmoocllahjnaa
