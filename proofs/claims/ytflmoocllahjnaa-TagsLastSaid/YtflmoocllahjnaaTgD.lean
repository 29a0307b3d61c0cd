/- A part of the proof of the statement that this folder claims, with no condition: definitions and lemmas on which the last text leans. -/
import Derived.Test.YtflmoocllahjnaaTgC
namespace Go.Proofs.Ytflmoocllahjnaa
open Go Go.Ab Go.RowKit

theorem splice_set {vs : List Value} {j : Nat} {v : Value} (h : j < vs.length) : splice vs j [v] = vs.set j v := by
  unfold splice
  rw [List.set_eq_take_append_cons_drop, if_pos h]
  simp

theorem CR.upd {h h' : AH} {c s : Nat} {ways : Int} {S : List Th} {B : List (Option Nat)} {vs : List Value} (R : CR h c s ways S B vs) {j : Nat} {v' : Value} {l' : Th} {b' : Option Nat} {F : Nat → Prop} (t : To F h h')
    (hF : ∀ i, F i → i = s ∨ B[j]? = some (some i)) (hs : h'.get s = some (.cells (vs.set j v') 42 (0, 0) true)) (hset : SetR h' v' l' b') (hb : ∀ x, b' = some x → B[j]? = some (some x) ∨ h.next ≤ x) (hl : l'.length ≤ 1000) :
    CR h' c s ways (S.set j l') (B.set j b') (vs.set j v') := by
  have hcF : ¬ F c := fun hc => by
    rcases hF c hc with h1 | h1
    · exact R.ne h1
    · exact (R.nec j c h1).1 rfl
  have hlow : ∀ i x, B[i]? = some (some x) → x < h.next := fun i x hx => by
    have hi : i < B.length := (List.getElem?_eq_some_iff.1 hx).1
    obtain ⟨l, hl⟩ : ∃ l, S[i]? = some l := ⟨_, List.getElem?_eq_getElem (by rw [← R.lB]; exact hi)⟩
    obtain ⟨v, hv⟩ : ∃ v, vs[i]? = some v := ⟨_, List.getElem?_eq_getElem (by rw [R.lv, ← R.lB]; exact hi)⟩
    obtain ⟨_, _, _, _, _, _, _, h6⟩ := R.set i l v _ hl hv hx
    exact h6
  exact {
    cache := by rw [t.keep c R.cn hcF, List.length_set]; exact R.cache
    sets := hs
    wf := t.wf
    cb := by rw [t.base]; exact R.cb
    sb := by rw [t.base]; exact R.sb
    cn := Nat.lt_of_lt_of_le R.cn t.next
    sn := Nat.lt_of_lt_of_le R.sn t.next
    ne := R.ne
    lv := by simp [R.lv]
    lB := by simp [R.lB]
    set := by
      intro i l v b h1 h2 h3
      rw [List.getElem?_set] at h1 h2 h3
      by_cases e : j = i
      · subst e
        rw [if_pos rfl] at h1 h2 h3
        split at h1
        · split at h2
          · split at h3
            · cases h1; cases h2; cases h3; exact hset
            · cases h3
          · cases h2
        · cases h1
      · rw [if_neg e] at h1 h2 h3
        refine (R.set i l v b h1 h2 h3).to t fun x hx hf => ?_
        subst hx
        rcases hF x hf with h4 | h4
        · exact (R.nec i x h3).2 h4
        · exact e (R.dist j i x h4 h3)
    dist := by
      intro i k x h1 h2
      rw [List.getElem?_set] at h1 h2
      have hx : ∀ m, B[m]? = some (some x) → b' = some x → B[j]? = some (some x) := fun m hm hbx => by
        rcases hb x hbx with h3 | h3
        · exact h3
        · have := hlow m x hm; omega
      by_cases e1 : j = i
      · by_cases e2 : j = k
        · rw [← e1, ← e2]
        · rw [if_neg e2] at h2
          rw [if_pos e1] at h1
          split at h1
          · cases h1
            exact absurd (R.dist j k x (hx k h2 rfl) h2) e2
          · cases h1
      · rw [if_neg e1] at h1
        by_cases e2 : j = k
        · rw [if_pos e2] at h2
          split at h2
          · cases h2
            exact absurd (R.dist j i x (hx i h1 rfl) h1) e1
          · cases h2
        · rw [if_neg e2] at h2
          exact R.dist i k x h1 h2
    nec := by
      intro i x h1
      rw [List.getElem?_set] at h1
      by_cases e1 : j = i
      · rw [if_pos e1] at h1
        split at h1
        · cases h1
          rcases hb x rfl with h3 | h3
          · exact R.nec j x h3
          · have := R.cn; have := R.sn; exact ⟨by omega, by omega⟩
        · cases h1
      · rw [if_neg e1] at h1; exact R.nec i x h1
    many := by simpa using R.many
    len := by
      intro i l h1
      rw [List.getElem?_set] at h1
      by_cases e1 : j = i
      · rw [if_pos e1] at h1
        split at h1
        · cases h1; exact hl
        · cases h1
      · rw [if_neg e1] at h1; exact R.len i l h1 }

theorem SetR.len {h : AH} {v : Value} {l : Th} {b : Option Nat} (k : SetR h v l b) : lenS v = some (.int .i64 l.length) := by
  cases b with
  | none => obtain ⟨rfl, rfl⟩ := k; rfl
  | some b => obtain ⟨cap, rest, rfl, _⟩ := k; rfl
theorem SetR.cell {h : AH} {v : Value} {l : Th} {b : Option Nat} (k : SetR h v l b) : cellsOfV v = some [v] ∧ [v].all cellB = true := by
  cases b with
  | none => obtain ⟨rfl, rfl⟩ := k; exact ⟨rfl, rfl⟩
  | some b => obtain ⟨cap, rest, rfl, _⟩ := k; exact ⟨rfl, rfl⟩

/-- one thing is appended -/
theorem app_one {h : AH} {v : Value} {l : Th} {b : Option Nat} {r : Nat} {x y : Int} (w : h.base ≤ h.next) (hs : SetR h v l b) (hl : l.length ≤ 1000) (hr : h.get r = some (.cells [.int .i64 x, .int .i64 y] 45 (0, 0) true)) {p : Value × AH → Prop}
    (k : ∀ h' v' b', To (fun i => b = some i) h h' → SetR h' v' (l ++ [(x, y)]) b' → (∀ z, b' = some z → b = some z ∨ h.next ≤ z) → p (v', h')) : thn (appV 2 16 45 h v (slPtr 1 1 r)) p := by
  have hsrc : srcCells h 2 1 (slPtr 1 1 r) = some [.int .i64 x, .int .i64 y] := by
    simp [srcCells, slPtr, loadCellsAt, hr]
  cases b with
  | none =>
    obtain ⟨rfl, rfl⟩ := hs
    have : appV 2 16 45 h (.slice none 0 0) (slPtr 1 1 r) = some (.slice (some ⟨h.next, 0, none⟩) 1 1, h.alloc (.cells [.int .i64 x, .int .i64 y] 45 (0, 0) false)) := by
      simp only [appV, show lenOfV (slPtr 1 1 r) = some 1 from rfl, hsrc]
      simp [cellB]
    rw [this, thn_some]
    refine k _ _ (some h.next) ⟨rfl, by simp, by simp; omega, fun i hi _ => by rw [AH.get_alloc w, if_neg (by omega)]⟩ ?_ fun z hz => by cases hz; exact .inr (Nat.le_refl _)
    exact ⟨1, [], rfl, by rw [AH.get_alloc w, if_pos rfl]; rfl, rfl, rfl, w, by simp⟩
  | some b =>
    obtain ⟨cap, rest, rfl, hgb, hcap, hrest, hb1, hb2⟩ := hs
    rcases Nat.lt_or_ge l.length cap with hlt | hge
    · rw [app_fits rfl hsrc rfl rfl (by omega) hb1 hgb (by simp; omega) (by omega), thn_some]
      refine k _ _ (some b) ⟨by simp, by simp, by simp; exact w, fun i hi hf => by rw [AH.get_set hb1, if_neg fun e => hf (by rw [e])]⟩ ?_ fun z hz => .inl hz
      obtain ⟨r1, r2, rest, rfl⟩ : ∃ r1 r2 rest', rest = r1 :: r2 :: rest' := by
        match rest, hcap with
        | r1 :: r2 :: rest', _ => exact ⟨r1, r2, rest', rfl⟩
        | [_], hcap => simp at hcap; omega
        | [], hcap => simp at hcap; omega
      refine ⟨cap, rest, by simp, ?_, by simp at hcap ⊢; omega, by simp only [List.all_cons, Bool.and_eq_true] at hrest; exact hrest.2.2, by simp; exact hb1, by simp; exact hb2⟩
      rw [AH.get_set hb1, if_pos rfl]
      congr 2
      unfold splice
      have e : 0 + l.length * 2 = (enc l).length := by simp; omega
      rw [e, enc_append]
      generalize enc l = X
      simp [List.drop_append, enc]
    · have hce : cap = l.length := by omega
      subst hce
      have hrn : rest = [] := List.eq_nil_of_length_eq_zero (by omega)
      subst hrn
      simp only [List.append_nil] at hgb
      have hload : loadCellsAt h ⟨b, 0, none⟩ (l.length * 2) = some (enc l) := by
        simp only [loadCellsAt, Option.isSome_none, Bool.false_eq_true, if_false, hgb]
        rw [if_pos (by simp; omega)]
        simp only [List.drop_zero, Option.some.injEq]
        exact List.take_of_length_le (by simp; omega)
      have : appV 2 16 45 h (.slice (some ⟨b, 0, none⟩) l.length l.length) (slPtr 1 1 r) = some (.slice (some ⟨h.next, 0, none⟩) (l.length + 1) (l.length + 1), (h.set b none).alloc (.cells (enc l ++ [.int .i64 x, .int .i64 y]) 45 (0, 0) false)) := by
        simp only [appV, show lenOfV (slPtr 1 1 r) = some 1 from rfl, hsrc, hload, hgb, enc_cells]
        have e1 : ¬ (l.length + 1 ≤ l.length) := by omega
        have e2 : (l.length + 1) * (16 + 1) ≤ 2 ^ 46 := by omega
        have e3 : l.length * 2 ≤ (enc l).length := by simp; omega
        simp [e1, e2, cellB, hb1]
        omega
      rw [this, thn_some]
      have w' : (h.set b none).base ≤ (h.set b none).next := by simp; exact w
      refine k _ _ (some h.next) ⟨by simp, by simp, by simp; omega, fun i hi hf => by rw [AH.get_alloc w', AH.set_next, if_neg (by omega), AH.get_set hb1, if_neg fun e => hf (by rw [e])]⟩ ?_ fun z hz => by cases hz; exact .inr (Nat.le_refl _)
      refine ⟨l.length + 1, [], by simp, by rw [AH.get_alloc w', AH.set_next, if_pos rfl]; simp [enc], by simp, rfl, by simp; exact w, by simp⟩

end Go.Proofs.Ytflmoocllahjnaa
