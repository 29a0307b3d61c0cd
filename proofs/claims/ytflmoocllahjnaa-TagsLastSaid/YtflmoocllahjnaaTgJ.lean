/- A part of the proof of the statement that this folder claims, with no condition: definitions and lemmas on which the last text leans. -/
import Derived.Test.YtflmoocllahjnaaTgI
namespace Go.Proofs.Ytflmoocllahjnaa
open Go Go.Ab Go.RowKit

/-- was it used? -/
theorem seen_loop {n w no x : Int} {c s T : Nat} {S : List Th} {B : List (Option Nat)} {vs : List Value} {U : List Int} {W : Th → Prop} {ub : Option Nat} {t2 t9 t10 : Value} {xs : List Int} {Q : Value → AH → Prop} :
    ∀ (m i : Nat) (h : AH) (seen : Bool), i + m = U.length → LI h n w no c s T S B vs U W ub t2 t9 xs → (seen = true ↔ x ∈ U.take i) →
      (∀ h', To No h h' → A3_22 Q (.int .i64 no) t2 (ptr0 T) (ptr0 c) t9 t10 (.int .i64 x) (.bool (decide (x ∈ U))) (.int .i64 U.length) h') →
      A3_18 Q (.int .i64 no) t2 (ptr0 T) (ptr0 c) t9 t10 (.int .i64 x) (.bool seen) (.int .i64 i) h := by
  intro m
  induction m with
  | zero =>
    intro i h seen him I hs k
    refine b3_18 ?_
    simp only [I.used.len, thn_some, abin_int, aint_lss, Br_dec]
    refine ⟨fun hlt => by omega, fun _ => ?_⟩
    have e : i = U.length := by omega
    subst e
    rw [List.take_length] at hs
    have : seen = decide (x ∈ U) := by
      cases seen
      · symm; rw [decide_eq_false_iff_not]; intro h; exact absurd (hs.2 h) (by simp)
      · symm; rw [decide_eq_true_eq]; exact hs.1 rfl
    rw [this]
    exact k h (To.refl I.R.wf)
  | succ m ih =>
    intro i h seen him I hs k
    refine b3_18 ?_
    simp only [I.used.len, thn_some, abin_int, aint_lss, Br_dec]
    refine ⟨fun _ => b3_21 ?_, fun hlt => by omega⟩
    have hu := I.ulen
    have hil : i < U.length := by omega
    obtain ⟨y, hy⟩ : ∃ y, U[i]? = some y := ⟨_, List.getElem?_eq_getElem hil⟩
    have htake : U.take (i + 1) = U.take i ++ [y] := by rw [List.take_add_one, hy]; rfl
    have e1 : IntKind.i64.wrap ((i : Int) + 1) = ((i + 1 : Nat) : Int) := by rw [IntWalk.i64_in _ (by omega)]; omega
    rw [Br_bool]
    constructor
    · intro hst
      simp only [abin_int, aint_add, thn_some, e1]
      exact ih (i + 1) h true (by omega) I (by rw [htake]; simp [hs.1 hst]) k
    · intro hsf
      have hused := I.used
      cases ub with
      | none => obtain ⟨rfl, _⟩ := hused; simp at hil
      | some b =>
        obtain ⟨rfl, hb, _⟩ := hused
        have hc : (U.map fun x => Value.int .i64 x)[0 + (i : Int).toNat * 1]? = some (.int .i64 y) := by
          rw [show 0 + (i : Int).toNat * 1 = i by omega, List.getElem?_map, hy]; rfl
        rw [idxS_of (by omega) (by omega), thn_some, ld1_of hb hc, thn_some]
        simp only [abin_int, aint_add, aint_eql, thn_some, e1]
        refine ih (i + 1) h (y == x) (by omega) I ?_ k
        rw [htake, List.mem_append, List.mem_singleton]
        have : x ∉ U.take i := fun h => by have := hs.2 h; rw [hsf] at this; cases this
        simp only [beq_iff_eq, this, false_or]
        exact eq_comm

/-- one is appended to the numbers that were used -/
theorem app_used {h : AH} {n w no x : Int} {c s T : Nat} {S : List Th} {B : List (Option Nat)} {vs : List Value} {U : List Int} {W : Th → Prop} {ub : Option Nat} {t2 t9 : Value} {xs : List Int} (I : LI h n w no c s T S B vs U W ub t2 t9 xs) (hU : U.length ≤ 99) {r : Nat} (hr : h.get r = some (.cells [.int .i64 x] 3 (0, 0) true)) {p : Value × AH → Prop}
    (k : ∀ h' v' ub', LI h' n w no c s T S B vs (U ++ [x]) W ub' t2 v' xs → To (fun i => ub = some i) h h' → p (v', h')) : thn (appV 1 8 3 h t9 (slPtr 1 1 r)) p := by
  have w0 := I.R.wf
  have hsrc : srcCells h 1 1 (slPtr 1 1 r) = some [.int .i64 x] := by simp [srcCells, slPtr, loadCellsAt, hr]
  have step : ∀ (F : Nat → Prop) (h' : AH), (∀ i, F i → ub = some i) → To F h h' → h'.get h.next = some (.cells ((U ++ [x]).map fun x => .int .i64 x) 3 (0, 0) false) → h.next < h'.next →
      LI h' n w no c s T S B vs (U ++ [x]) W (some h.next) t2 (.slice (some ⟨h.next, 0, none⟩) (U.length + 1) (U.length + 1)) xs := by
    intro F h' hF t g hlt
    have hFp : ∀ z, Fp c s B z → ¬ F z := fun z hz hf => by
      have := hF z hf
      have hu := I.used
      subst this
      exact hu.2.2.2.2.2 hz
    have hFT : ¬ F T := fun hf => by
      have := hF T hf
      have hu := I.used
      subst this
      exact hu.2.2.2.2.1 rfl
    have hFb : ∀ z, F z → h.base ≤ z := fun z hf => by
      have := hF z hf
      have hu := I.used
      subst this
      exact hu.2.2.1
    exact {
      R := I.R.to t hFp
      n1 := I.n1
      w1 := I.w1
      good := I.good
      no0 := I.no0
      watch := I.watch
      two := by rw [t.keep T I.tn hFT]; exact I.two
      tn := Nat.lt_of_lt_of_le I.tn t.next
      tb := by rw [t.base]; exact I.tb
      tf := I.tf
      used := ⟨by simp, g, by rw [t.base]; exact w0, hlt, fun e => by have := I.tn; omega, fun hf => by have := (I.R.fpb hf).2; omega⟩
      ulen := by simp; omega
      arg := I.arg.to t w0 hFb }
  cases ub with
  | none =>
    obtain ⟨rfl, rfl⟩ := I.used
    have : appV 1 8 3 h (.slice none 0 0) (slPtr 1 1 r) = some (.slice (some ⟨h.next, 0, none⟩) 1 1, h.alloc (.cells [.int .i64 x] 3 (0, 0) false)) := by
      simp only [appV, show lenOfV (slPtr 1 1 r) = some 1 from rfl, hsrc]
      simp [cellB]
    rw [this, thn_some]
    have t : To (fun i => none = some i) h (h.alloc (.cells [.int .i64 x] 3 (0, 0) false)) := ⟨rfl, by simp, by simp; omega, fun i hi _ => by rw [AH.get_alloc w0, if_neg (by omega)]⟩
    exact k _ _ _ (step _ _ (fun i h => h) t (by rw [AH.get_alloc w0, if_pos rfl]; rfl) (by simp)) t
  | some b =>
    have hu := I.used
    obtain ⟨rfl, hb, hb1, hb2, _, _⟩ := hu
    have hload : loadCellsAt h ⟨b, 0, none⟩ (U.length * 1) = some (U.map fun x => .int .i64 x) := by
      simp only [loadCellsAt, Option.isSome_none, Bool.false_eq_true, if_false, hb]
      rw [if_pos (by simp)]
      simp only [List.drop_zero, Option.some.injEq]
      exact List.take_of_length_le (by simp)
    have hall : (U.map fun x => Value.int .i64 x).all cellB = true := by
      rw [List.all_eq_true]; intro v hv; obtain ⟨y, _, rfl⟩ := List.mem_map.1 hv; rfl
    have : appV 1 8 3 h (.slice (some ⟨b, 0, none⟩) U.length U.length) (slPtr 1 1 r) = some (.slice (some ⟨h.next, 0, none⟩) (U.length + 1) (U.length + 1), (h.set b none).alloc (.cells ((U.map fun x => .int .i64 x) ++ [.int .i64 x]) 3 (0, 0) false)) := by
      simp only [appV, show lenOfV (slPtr 1 1 r) = some 1 from rfl, hsrc, hload, hb, hall]
      have e1 : ¬ (U.length + 1 ≤ U.length) := by omega
      have e2 : (U.length + 1) * (8 + 1) ≤ 2 ^ 46 := by omega
      simp [e1, e2, cellB, hb1]
      try omega
    rw [this, thn_some]
    have w' : (h.set b none).base ≤ (h.set b none).next := by simp; exact w0
    have t : To (fun i => some b = some i) h ((h.set b none).alloc (.cells ((U.map fun x => .int .i64 x) ++ [.int .i64 x]) 3 (0, 0) false)) :=
      ⟨by simp, by simp, by simp; omega, fun i hi hf => by rw [AH.get_alloc w', AH.set_next, if_neg (by omega), AH.get_set hb1, if_neg fun e => hf (by rw [e])]⟩
    exact k _ _ _ (step _ _ (fun i h => h) t (by rw [AH.get_alloc w', AH.set_next, if_pos rfl]; simp) (by simp)) t

end Go.Proofs.Ytflmoocllahjnaa
