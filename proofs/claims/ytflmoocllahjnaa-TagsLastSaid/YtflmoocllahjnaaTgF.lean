/- A part of the proof of the statement that this folder claims, with no condition: definitions and lemmas on which the last text leans. -/
import Derived.Test.YtflmoocllahjnaaTgE
namespace Go.Proofs.Ytflmoocllahjnaa
open Go Go.Ab Go.RowKit

theorem peek_ok {h : AH} {c s : Nat} {ways x : Int} {S : List Th} {B : List (Option Nat)} {vs : List Value} (R : CR h c s ways S B vs) (hx : 0 ≤ x) {j : Nat} (hj : j = (x % S.length).toNat) {l : Th} (hl : S[j]? = some l) {Q : Value → AH → Prop}
    (k : ∀ h', To No h h' → Q (match l.findIdx? (fun p => p.1 == x) with | some i => (.tuple #[.int .i64 (l.getD i (0, 0)).2, .int .i64 0]) | none => .tuple #[.int .i64 0, .int .i64 12]) h') :
    Ok Pr K (.call 10 [ptr0 c, .int .i64 x]) h fun o h' => Q o.v h' := by
  refine c10 (b10_0 ?_)
  refine find_ok (Q := fun o0 h0 => thn (extV 0 o0) fun v1 => thn (extV 1 o0) fun v2 => thn (extV 2 o0) fun v3 => thn (abin Pr .neq 27 (.tmp 15) (.const (.int .i64 0)) v3 (.int .i64 0)) fun v4 =>
    Br v4 (A10_1 Q (.int .i64 0) v3 h0) (A10_2 Q (.int .i64 0) v1 v2 h0)) R hx fun h1 t1 => ?_
  have R1 := R.to' t1
  have hjl : j < S.length := by rw [hj]; exact mod_lt hx R.many.1
  have hgetD : S.getD (x % S.length).toNat [] = l := by rw [← hj]; simp [List.getD_eq_getElem?_getD, hl]
  rw [hgetD, ← hj]
  simp only [extV_tuple, List.getElem?_cons_zero, List.getElem?_cons_succ, thn_some, abin_int, aint_neq, Br_bne]
  refine ⟨fun h => absurd rfl h, fun _ => b10_2 ?_⟩
  simp only [abin_int, aint_lss, thn_some, Br_dec]
  unfold at'
  cases hf : l.findIdx? (fun p => p.1 == x) with
  | none =>
    simp only [hf] at k ⊢
    exact ⟨fun _ => b10_3 (k h1 t1), fun h => by omega⟩
  | some i =>
    simp only [hf] at k ⊢
    refine ⟨fun h => by omega, fun _ => b10_4 ?_⟩
    have hil : i < l.length := by
      rw [List.findIdx?_eq_some_iff_getElem] at hf
      exact hf.1
    obtain ⟨l', v, b, hl', hv, hB, hset, hlen⟩ := R1.slot hjl
    rw [hl] at hl'; cases hl'
    cases b with
    | none => obtain ⟨rfl, _⟩ := hset; simp at hil
    | some b =>
      obtain ⟨cap, rest, rfl, hgb, hcap, hrest, hb1, hb2⟩ := hset
      have hp : l[i]? = some (l.getD i (0, 0)) := by simp [List.getD_eq_getElem?_getD, hil]
      simp only [nilV_ptr, thn_some, ld1_of R1.sets hv]
      rw [idxS_of (by omega) (by omega), thn_some, padd_ptr, thn_some, ld1_of hgb (o := 0 + (i : Int).toNat * 2 + 1) (v := .int .i64 (l.getD i (0, 0)).2) (by rw [show 0 + (i : Int).toNat * 2 + 1 = 2 * i + 1 by omega]; exact (enc_at hp).2), thn_some]
      exact k h1 t1

def vicL (ways : Int) (l : Th) (x : Int) : Value :=
  match l.findIdx? (fun p => p.1 == x) with
  | some _ => .tuple #[.int .i64 0, .bool false, .int .i64 0]
  | none => if (l.length : Int) < ways then .tuple #[.int .i64 0, .bool false, .int .i64 0] else .tuple #[.int .i64 (l.getD 0 (0, 0)).1, .bool true, .int .i64 0]
theorem victim_ok {h : AH} {c s : Nat} {ways x : Int} {S : List Th} {B : List (Option Nat)} {vs : List Value} (R : CR h c s ways S B vs) (hx : 0 ≤ x) (hw : 0 < ways) {j : Nat} (hj : j = (x % S.length).toNat) {l : Th} (hl : S[j]? = some l) {Q : Value → AH → Prop}
    (k : ∀ h', To No h h' → Q (vicL ways l x) h') :
    Ok Pr K (.call 8 [ptr0 c, .int .i64 x]) h fun o h' => Q o.v h' := by
  refine c8 (b8_0 ?_)
  refine find_ok (Q := fun o0 h0 => thn (extV 0 o0) fun v1 => thn (extV 1 o0) fun v2 => thn (extV 2 o0) fun v3 => thn (abin Pr .neq 27 (.tmp 16) (.const (.int .i64 0)) v3 (.int .i64 0)) fun v4 =>
    Br v4 (A8_1 Q v3 h0) (A8_2 Q (ptr0 c) v1 v2 h0)) R hx fun h1 t1 => ?_
  have R1 := R.to' t1
  have hjl : j < S.length := by rw [hj]; exact mod_lt hx R.many.1
  have hgetD : S.getD (x % S.length).toNat [] = l := by rw [← hj]; simp [List.getD_eq_getElem?_getD, hl]
  rw [hgetD, ← hj]
  simp only [extV_tuple, List.getElem?_cons_zero, List.getElem?_cons_succ, thn_some, abin_int, aint_neq, Br_bne]
  refine ⟨fun h => absurd rfl h, fun _ => b8_2 ?_⟩
  refine resv_to R1.wf fun h2 t2 n2 g2 => ?_
  have R2 := R1.to' t2
  have t02 : To No h h2 := t1.trans t2 fun _ _ h => h
  simp only [abin_int, aint_geq, thn_some, Br_dec, Br_true]
  unfold vicL at k
  unfold at'
  cases hf : l.findIdx? (fun p => p.1 == x) with
  | some i =>
    simp only [hf] at k ⊢
    exact ⟨fun _ => b8_3 (k h2 t02), fun h => by omega⟩
  | none =>
    simp only [hf] at k ⊢
    refine ⟨fun h => by omega, fun _ => ?_⟩
    obtain ⟨l', v, b, hl', hv, hB, hset, hlen⟩ := R2.slot hjl
    rw [hl] at hl'; cases hl'
    rw [show ptr0 c = .pointer (some ⟨c, 0, none⟩) from rfl]
    simp only [nilV_ptr, thn_some, padd_ptr, ld1_of R2.sets hv, hset.len, ld1_of R2.cache (o := 0 + 0) rfl, abin_int, aint_lss, Br_dec]
    constructor
    · intro hlt
      rw [if_pos hlt] at k
      exact b8_3 (k h2 t02)
    · intro hge
      rw [if_neg hge] at k
      refine b8_4 ?_
      have h0 : 0 < l.length := by omega
      cases b with
      | none => obtain ⟨rfl, _⟩ := hset; simp at h0
      | some b =>
        obtain ⟨cap, rest, rfl, hgb, hcap, hrest, hb1, hb2⟩ := hset
        have hp : l[0]? = some (l.getD 0 (0, 0)) := by simp [List.getD_eq_getElem?_getD, h0]
        simp only [nilV_ptr, thn_some, ld1_of R2.sets hv]
        rw [idxS_of (by omega) (by omega), thn_some, padd_ptr, thn_some, ld1_of hgb (o := 0 + (0 : Int).toNat * 2 + 0) (v := .int .i64 (l.getD 0 (0, 0)).1) (by have := (enc_at hp (r := rest)).1; exact this), thn_some]
        exact k h2 t02

theorem drop_ok {h : AH} {c s : Nat} {ways x : Int} {S : List Th} {B : List (Option Nat)} {vs : List Value} (R : CR h c s ways S B vs) (hx : 0 ≤ x) {j : Nat} (hj : j = (x % S.length).toNat) {l : Th} (hl : S[j]? = some l) {Q : Value → AH → Prop}
    (k : ∀ h' B' vs' v, To (Fp c s B) h h' → CR h' c s ways (S.set j (delL l x)) B' vs' → (∀ z, Fp c s B' z → Fp c s B z ∨ h.next ≤ z) → Q v h') :
    Ok Pr K (.call 9 [ptr0 c, .int .i64 x]) h fun o h' => Q o.v h' := by
  refine c9 (b9_0 ?_)
  refine find_ok (Q := fun o0 h0 => thn (extV 0 o0) fun v1 => thn (extV 1 o0) fun v2 => thn (extV 2 o0) fun v3 => thn (abin Pr .neq 27 (.tmp 15) (.const (.int .i64 0)) v3 (.int .i64 0)) fun v4 =>
    Br v4 (A9_1 Q (.int .i64 0) v3 h0) (A9_2 Q (.int .i64 0) v1 v2 h0)) R hx fun h1 t1 => ?_
  have R1 := R.to' t1
  have hjl : j < S.length := by rw [hj]; exact mod_lt hx R.many.1
  have hgetD : S.getD (x % S.length).toNat [] = l := by rw [← hj]; simp [List.getD_eq_getElem?_getD, hl]
  rw [hgetD, ← hj]
  simp only [extV_tuple, List.getElem?_cons_zero, List.getElem?_cons_succ, thn_some, abin_int, aint_neq, Br_bne]
  refine ⟨fun h => absurd rfl h, fun _ => b9_2 ?_⟩
  simp only [abin_int, aint_lss, thn_some, Br_dec]
  have t1' : To (Fp c s B) h h1 := t1.mono fun _ _ h => h.elim
  unfold delL at k
  unfold at'
  cases hf : l.findIdx? (fun p => p.1 == x) with
  | none =>
    simp only [hf] at k ⊢
    rw [set_self' hl] at k
    exact ⟨fun _ => b9_3 (k h1 B vs _ t1' R1 fun z hz => .inl hz), fun h => by omega⟩
  | some i =>
    simp only [hf] at k ⊢
    refine ⟨fun h => by omega, fun _ => b9_4 ?_⟩
    have hil : i < l.length := by
      rw [List.findIdx?_eq_some_iff_getElem] at hf
      exact hf.1
    obtain ⟨l', v, b, hl', hv, hB, hset, hlen⟩ := R1.slot hjl
    rw [hl] at hl'; cases hl'
    cases b with
    | none => obtain ⟨rfl, _⟩ := hset; simp at hil
    | some b =>
      obtain ⟨cap, rest, rfl, hgb, hcap, hrest, hb1, hb2⟩ := hset
      have hp : l[i]? = some (l.getD i (0, 0)) := by simp [List.getD_eq_getElem?_getD, hil]
      simp only [nilV_ptr, thn_some, ld1_of R1.sets hv]
      rw [idxS_of (by omega) (by omega), thn_some, padd_ptr, thn_some, ld1_of hgb (o := 0 + (i : Int).toNat * 2 + 1) (v := .int .i64 (l.getD i (0, 0)).2) (by rw [show 0 + (i : Int).toNat * 2 + 1 = 2 * i + 1 by omega]; exact (enc_at hp).2), thn_some]
      simp only [abin_int, aint_add, thn_some]
      rw [IntWalk.i64_in _ (by omega)]
      refine delete_ok (Q := fun o8 h8 => thn (stV h8 1 (.pointer (some ⟨s, j, none⟩)) o8) fun h10 => Q (.tuple #[.int .i64 (l.getD i (0, 0)).2, (.int .i64 0)]) h10) hil hgb hcap hb1 hb2 R1.wf fun h2 t2 g2 => ?_
      have hlen1 : (l.eraseIdx i).length = l.length - 1 := by rw [List.length_eraseIdx, if_pos hil]
      have hset2 : SetR h2 (.slice (some ⟨b, 0, none⟩) (l.length - 1) cap) (l.eraseIdx i) (some b) :=
        ⟨cap, _, by rw [hlen1], g2, by rw [hlen1]; simp; omega, by simp only [List.all_cons, hrest, cellB, Bool.and_self], by rw [t2.base]; exact hb1, Nat.lt_of_lt_of_le hb2 t2.next⟩
      refine slot_st R1 hjl hB (t2.mono fun i _ e => by rw [e]) hset2 (fun z hz => .inl hz) (by omega) fun h3 t3 R3 n3 => ?_
      have t03 : To (Fp c s B) h h3 := t1'.trans t3 fun _ _ h => h
      exact k h3 _ _ _ t03 R3 fun z hz => (Fp_set (n := h.next) (fun x hx => .inl (by rw [hB, hx])) hz)

end Go.Proofs.Ytflmoocllahjnaa
