/- A part of the proof of the statement that this folder claims, with no condition: definitions and lemmas on which the last text leans. -/
import Derived.Test.YtflmoocllahjnaaTgH
namespace Go.Proofs.Ytflmoocllahjnaa
open Go Go.Ab Go.RowKit

/-- the numbers that were used -/
def UR (h : AH) (v : Value) (U : List Int) (T c s : Nat) (B : List (Option Nat)) : Option Nat → Prop
  | none => U = [] ∧ v = .slice none 0 0
  | some b => v = .slice (some ⟨b, 0, none⟩) U.length U.length ∧ h.get b = some (.cells (U.map fun x => .int .i64 x) 3 (0, 0) false) ∧ h.base ≤ b ∧ b < h.next ∧ b ≠ T ∧ ¬ Fp c s B b
/-- the argument -/
def ArgL (h : AH) (v : Value) (xs : List Int) : Prop := ∃ a cap, v = .slice a xs.length cap ∧ ∀ (i : Nat) x, xs[i]? = some x →
  ∃ b o cc e fz ex, a = some ⟨b, o, none⟩ ∧ b < h.base ∧ h.get b = some (.cells cc e fz ex) ∧ cc[o + i]? = some (.int .i64 x)
structure LI (h : AH) (n w no : Int) (c s T : Nat) (S : List Th) (B : List (Option Nat)) (vs : List Value) (U : List Int) (W : Th → Prop) (ub : Option Nat) (t2 t9 : Value) (xs : List Int) : Prop where
  R : CR h c s w S B vs
  n1 : (S.length : Int) = n
  w1 : 0 < w ∧ w ≤ 4
  good : ∀ (j : Nat) l, S[j]? = some l → Good w n j l
  no0 : 0 ≤ no
  watch : ∃ l, S[(no % n).toNat]? = some l ∧ W l
  two : h.get T = some (.cells [.int .i64 n, .int .i64 w] 22 (0, 0) true)
  tn : T < h.next
  tb : h.base ≤ T
  tf : ¬ Fp c s B T
  used : UR h t9 U T c s B ub
  ulen : U.length ≤ 100
  arg : ArgL h t2 xs

theorem ArgL.to {h h' : AH} {v : Value} {xs : List Int} (k : ArgL h v xs) {F : Nat → Prop} (t : To F h h') (w : h.base ≤ h.next) (hF : ∀ i, F i → h.base ≤ i) : ArgL h' v xs := by
  obtain ⟨a, cap, h1, h2⟩ := k
  refine ⟨a, cap, h1, fun i x hx => ?_⟩
  obtain ⟨b, o, cc, e, fz, ex, h3, h4, h5, h6⟩ := h2 i x hx
  exact ⟨b, o, cc, e, fz, ex, h3, by rw [t.base]; exact h4, by rw [t.keep b (by omega) fun hf => by have := hF b hf; omega]; exact h5, h6⟩
theorem UR.to {h h' : AH} {v : Value} {U : List Int} {T c s : Nat} {B B' : List (Option Nat)} {ub : Option Nat} (k : UR h v U T c s B ub) {F : Nat → Prop} (t : To F h h') (hF : ∀ b, ub = some b → ¬ F b) (hB : ∀ b, b < h.next → Fp c s B' b → Fp c s B b) : UR h' v U T c s B' ub := by
  cases ub with
  | none => exact k
  | some b =>
    obtain ⟨h1, h2, h3, h4, h5, h6⟩ := k
    exact ⟨h1, by rw [t.keep b h4 (hF b rfl)]; exact h2, by rw [t.base]; exact h3, Nat.lt_of_lt_of_le h4 t.next, h5, fun hf => h6 (hB b h4 hf)⟩
theorem UR.len {h : AH} {v : Value} {U : List Int} {T c s : Nat} {B : List (Option Nat)} {ub : Option Nat} (k : UR h v U T c s B ub) : lenS v = some (.int .i64 U.length) := by
  cases ub with
  | none => obtain ⟨rfl, rfl⟩ := k; rfl
  | some b => obtain ⟨rfl, _⟩ := k; rfl
theorem CR.fpb {h : AH} {c s : Nat} {ways : Int} {S : List Th} {B : List (Option Nat)} {vs : List Value} (R : CR h c s ways S B vs) {z : Nat} (hz : Fp c s B z) : h.base ≤ z ∧ z < h.next := by
  rcases hz with h1 | h1 | h1
  · subst h1; exact ⟨R.cb, R.cn⟩
  · subst h1; exact ⟨R.sb, R.sn⟩
  · obtain ⟨i, hi⟩ := List.mem_iff_getElem?.1 h1
    have hil : i < B.length := (List.getElem?_eq_some_iff.1 hi).1
    obtain ⟨l, v, b, hl, hv, hB, hset, _⟩ := R.slot (j := i) (by rw [← R.lB]; exact hil)
    rw [hi] at hB; cases hB
    obtain ⟨_, _, _, _, _, _, h5, h6⟩ := hset
    exact ⟨h5, h6⟩
/-- nothing of it is turned -/
theorem LI.to {h h' : AH} {n w no : Int} {c s T : Nat} {S : List Th} {B : List (Option Nat)} {vs : List Value} {U : List Int} {W : Th → Prop} {ub : Option Nat} {t2 t9 : Value} {xs : List Int} (I : LI h n w no c s T S B vs U W ub t2 t9 xs) (t : To No h h') : LI h' n w no c s T S B vs U W ub t2 t9 xs where
  R := I.R.to' t
  n1 := I.n1
  w1 := I.w1
  good := I.good
  no0 := I.no0
  watch := I.watch
  two := by rw [t.get I.tn]; exact I.two
  tn := Nat.lt_of_lt_of_le I.tn t.next
  tb := by rw [t.base]; exact I.tb
  tf := I.tf
  used := I.used.to t (fun _ _ h => h) fun _ _ h => h
  ulen := I.ulen
  arg := I.arg.to t I.R.wf fun _ h => h.elim

/-- the last question of a round -/
theorem chk {h : AH} {n w no : Int} {c s T : Nat} {S : List Th} {B : List (Option Nat)} {vs : List Value} {U : List Int} {ub : Option Nat} {t2 t9 : Value} {xs : List Int} (I : LI h n w no c s T S B vs U (fun l => Watch w no l U) ub t2 t9 xs) {Q : Value → AH → Prop} {t10 : Value}
    (k : ∀ h', To No h h' → A3_20 Q (.int .i64 no) t2 (ptr0 T) (ptr0 c) t9 t10 h') :
 Ok Pr K (.call 10 [ptr0 c, .int .i64 no]) h fun o0 h0 => -- (*donjon/tags.Cache[int]).Peek
 thn (extV 0 o0.v) fun v1 =>
 thn (extV 1 o0.v) fun v2 =>
 thn (lenS t9) fun v3 =>
 thn (idxA 2 1 (ptr0 T) (.int .i64 1)) fun v4 =>
 thn (ld1 h0 v4) fun v5 =>
 thn (abin Pr .lss 3 (.tmp 127) (.tmp 129) v3 v5) fun v6 =>
 Br v6 (
 thn (abin Pr .neq 3 (.tmp 132) (.const (.int .i64 99)) v1 (.int .i64 99)) fun v7 =>
 Br v7 (
 Br (.bool true) (
 Br (.bool true) (
 A3_19 Q  h0) (
 A3_20 Q (.int .i64 no) t2 (ptr0 T) (ptr0 c) t9 t10 h0)) (
 thn (lenS t9) fun v8 =>
 thn (idxA 2 1 (ptr0 T) (.int .i64 1)) fun v9 =>
 thn (ld1 h0 v9) fun v10 =>
 thn (abin Pr .geq 3 (.tmp 141) (.tmp 143) v8 v10) fun v11 =>
 Br v11 (
 thn (abin Pr .neq 27 (.tmp 146) (.const (.int .i64 12)) v2 (.int .i64 12)) fun v12 =>
 Br v12 (
 A3_19 Q  h0) (
 A3_20 Q (.int .i64 no) t2 (ptr0 T) (ptr0 c) t9 t10 h0)) (
 Br (.bool false) (
 A3_19 Q  h0) (
 A3_20 Q (.int .i64 no) t2 (ptr0 T) (ptr0 c) t9 t10 h0)))) (
 thn (abin Pr .neq 27 (.tmp 135) (.const (.int .i64 0)) v2 (.int .i64 0)) fun v8 =>
 Br v8 (
 Br (.bool true) (
 A3_19 Q  h0) (
 A3_20 Q (.int .i64 no) t2 (ptr0 T) (ptr0 c) t9 t10 h0)) (
 thn (lenS t9) fun v9 =>
 thn (idxA 2 1 (ptr0 T) (.int .i64 1)) fun v10 =>
 thn (ld1 h0 v10) fun v11 =>
 thn (abin Pr .geq 3 (.tmp 141) (.tmp 143) v9 v11) fun v12 =>
 Br v12 (
 thn (abin Pr .neq 27 (.tmp 146) (.const (.int .i64 12)) v2 (.int .i64 12)) fun v13 =>
 Br v13 (
 A3_19 Q  h0) (
 A3_20 Q (.int .i64 no) t2 (ptr0 T) (ptr0 c) t9 t10 h0)) (
 Br (.bool false) (
 A3_19 Q  h0) (
 A3_20 Q (.int .i64 no) t2 (ptr0 T) (ptr0 c) t9 t10 h0))))) (
 Br (.bool false) (
 Br (.bool true) (
 A3_19 Q  h0) (
 A3_20 Q (.int .i64 no) t2 (ptr0 T) (ptr0 c) t9 t10 h0)) (
 thn (lenS t9) fun v7 =>
 thn (idxA 2 1 (ptr0 T) (.int .i64 1)) fun v8 =>
 thn (ld1 h0 v8) fun v9 =>
 thn (abin Pr .geq 3 (.tmp 141) (.tmp 143) v7 v9) fun v10 =>
 Br v10 (
 thn (abin Pr .neq 27 (.tmp 146) (.const (.int .i64 12)) v2 (.int .i64 12)) fun v11 =>
 Br v11 (
 A3_19 Q  h0) (
 A3_20 Q (.int .i64 no) t2 (ptr0 T) (ptr0 c) t9 t10 h0)) (
 Br (.bool false) (
 A3_19 Q  h0) (
 A3_20 Q (.int .i64 no) t2 (ptr0 T) (ptr0 c) t9 t10 h0)))) := by
  obtain ⟨l, hl, hw⟩ := I.watch
  refine Ok.mono (peek_ok (Q := fun v h' => v = (if (U.length : Int) < w then .tuple #[.int .i64 99, .int .i64 0] else .tuple #[.int .i64 0, .int .i64 12]) ∧ To No h h') I.R I.no0 (j := (no % n).toNat) (by rw [I.n1]) hl fun h' t' => ⟨watch_peek hw, t'⟩) ?_
  intro o h' ⟨ho, t'⟩
  have I' := I.to t'
  have k := k h' t'
  rw [ho]
  have hi : idxA 2 1 (ptr0 T) (.int .i64 1) = some (.pointer (some ⟨T, 1, none⟩)) := rfl
  have hld : ld1 h' (.pointer (some ⟨T, 1, none⟩)) = some (.int .i64 w) := ld1_of I'.two rfl
  by_cases hU : (U.length : Int) < w
  · rw [if_pos hU]
    have hU2 : ¬ (U.length : Int) ≥ w := by omega
    simp only [extV_tuple, List.getElem?_cons_zero, List.getElem?_cons_succ, thn_some, I.used.len, hi, hld, abin_int, aint_lss, aint_neq, aint_geq, Br_dec, Br_bne, hU, hU2, Br_false]
    simp [k]
  · rw [if_neg hU]
    have hU2 : (U.length : Int) ≥ w := by omega
    simp only [extV_tuple, List.getElem?_cons_zero, List.getElem?_cons_succ, thn_some, I.used.len, hi, hld, abin_int, aint_lss, aint_neq, aint_geq, Br_dec, Br_bne, hU, hU2, Br_false]
    simp [k]

end Go.Proofs.Ytflmoocllahjnaa
