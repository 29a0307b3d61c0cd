/- A part of the proof of the statement that this folder claims, with no condition: definitions and lemmas on which the last text leans. -/
import Derived.Test.YtflmoocllahjnaaTgD
namespace Go.Proofs.Ytflmoocllahjnaa
open Go Go.Ab Go.RowKit

theorem CR.slot {h : AH} {c s : Nat} {ways : Int} {S : List Th} {B : List (Option Nat)} {vs : List Value} (R : CR h c s ways S B vs) {j : Nat} (hj : j < S.length) :
    ∃ l v b, S[j]? = some l ∧ vs[j]? = some v ∧ B[j]? = some b ∧ SetR h v l b ∧ l.length ≤ 1000 := by
  obtain ⟨l, hS⟩ : ∃ l, S[j]? = some l := ⟨_, List.getElem?_eq_getElem hj⟩
  obtain ⟨v, hv⟩ : ∃ v, vs[j]? = some v := ⟨_, List.getElem?_eq_getElem (by rw [R.lv]; exact hj)⟩
  obtain ⟨b, hB⟩ : ∃ b, B[j]? = some b := ⟨_, List.getElem?_eq_getElem (by rw [R.lB]; exact hj)⟩
  exact ⟨l, v, b, hS, hv, hB, R.set j _ _ _ hS hv hB, R.len j _ hS⟩
theorem mod_lt {S : List Th} {x : Int} (hx : 0 ≤ x) (h : 0 < S.length) : (x % S.length).toNat < S.length := by
  have := Int.emod_lt_of_pos x (show (0 : Int) < S.length by omega)
  have := Int.emod_nonneg x (show (S.length : Int) ≠ 0 by omega)
  omega
theorem Fp_set {c s : Nat} {B : List (Option Nat)} {j : Nat} {b' : Option Nat} {n : Nat} (hb : ∀ x, b' = some x → B[j]? = some (some x) ∨ n ≤ x) {z : Nat} (h : Fp c s (B.set j b') z) : Fp c s B z ∨ n ≤ z := by
  rcases h with h | h | h
  · exact .inl (.inl h)
  · exact .inl (.inr (.inl h))
  · rcases List.mem_or_eq_of_mem_set h with h1 | h1
    · exact .inl (.inr (.inr h1))
    · rcases hb z h1.symm with h2 | h2
      · exact .inl (.inr (.inr (List.mem_of_getElem? h2)))
      · exact .inr h2

/-- the slot of a set is written -/
theorem slot_st {h h1 : AH} {c s : Nat} {ways : Int} {S : List Th} {B : List (Option Nat)} {vs : List Value} (R : CR h c s ways S B vs) {j : Nat} (hj : j < S.length) {v' : Value} {l' : Th} {b b' : Option Nat} (hB : B[j]? = some b)
    (t : To (fun i => b = some i) h h1) (hset : SetR h1 v' l' b') (hb : ∀ z, b' = some z → b = some z ∨ h.next ≤ z) (hl : l'.length ≤ 1000) {p : AH → Prop}
    (k : ∀ h2, To (Fp c s B) h h2 → CR h2 c s ways (S.set j l') (B.set j b') (vs.set j v') → h1.next = h2.next → p h2) :
    thn (stV h1 1 (.pointer (some ⟨s, j, none⟩)) v') p := by
  have hbs : b ≠ some s := fun e => (R.nec j s (by rw [hB, e])).2 rfl
  have hs1 : h1.get s = some (.cells vs 42 (0, 0) true) := by rw [t.keep s R.sn hbs]; exact R.sets
  have hjv : j < vs.length := by rw [R.lv]; exact hj
  refine st_to (vs := [v']) t.wf (by rw [t.base]; exact R.sb) hs1 hset.cell.1 hset.cell.2 rfl (by omega) fun h2 t2 n2 g2 => ?_
  rw [splice_set hjv] at g2
  have hb's : b' ≠ some s := fun e => by
    rcases hb s e with h3 | h3
    · exact hbs h3
    · have := R.sn; omega
  have t02 : To (fun i => i = s ∨ b = some i) h h2 := (t.mono fun i _ h => .inr h).trans t2 fun i _ h => .inl h
  refine k h2 (t02.mono fun i _ hf => ?_) (R.upd t02 (fun i hi => hi.imp id fun e => by rw [hB, e]) g2 (hset.to t2 fun x hx e => hb's (by rw [hx, e])) (fun x hx => (hb x hx).imp (fun e => by rw [hB, e]) id) hl) n2.symm
  rcases hf with h3 | h3
  · exact .inr (.inl h3)
  · exact .inr (.inr (by rw [← h3]; exact List.mem_of_getElem? hB))

def putL (ways : Int) (l : Th) (x y : Int) : Int × Th :=
  let l1 := match l.findIdx? (fun p => p.1 == x) with | some i => l.eraseIdx i | none => l
  if ways ≤ l1.length then (11, l1) else (0, l1 ++ [(x, y)])
def delL (l : Th) (x : Int) : Th := match l.findIdx? (fun p => p.1 == x) with | some i => l.eraseIdx i | none => l

theorem build45 {x y : Int} : abuild Pr 45 [(0, .int .i64 x), (1, .int .i64 y)] = some (.agg ⟨[.int .i64 x, .int .i64 y]⟩) := by kernel_rfl
theorem fill45 {x y : Int} : afill (fun i => some (i * 2, 2)) [(.int .i64 0), (.int .i64 0)] [(0, .agg ⟨[.int .i64 x, .int .i64 y]⟩)] = some [.int .i64 x, .int .i64 y] := by kernel_rfl

/-- the end of Put -/
theorem put_tail {h h0 : AH} {c s : Nat} {ways x y : Int} {S0 S : List Th} {B0 B : List (Option Nat)} {vs : List Value} (R : CR h c s ways S B vs) {j : Nat} (hj : j < S.length) {l : Th} (hl : S[j]? = some l) (hl2 : l.length ≤ 999) {Q : Value → AH → Prop}
    (t0 : To (Fp c s B0) h0 h) (hB0 : ∀ z, Fp c s B z → Fp c s B0 z ∨ h0.next ≤ z) (hS : ∀ l', S.set j l' = S0.set j l')
    (k : ∀ h' B' vs', To (Fp c s B0) h0 h' → CR h' c s ways (S0.set j (if ways ≤ l.length then ((11 : Int), l) else (0, l ++ [(x, y)])).2) B' vs' → (∀ z, Fp c s B' z → Fp c s B0 z ∨ h0.next ≤ z) → Q (.int .i64 (if ways ≤ l.length then ((11 : Int), l) else (0, l ++ [(x, y)])).1) h') :
    resv h 9 fun h0 =>
    thn (nilV (.pointer (some ⟨s, j, none⟩))) fun v1 =>
    thn (ld1 h0 v1) fun v2 =>
    thn (lenS v2) fun v3 =>
    thn (nilV (ptr0 c)) fun v4 =>
    thn (padd 0 v4) fun v5 =>
    thn (ld1 h0 v5) fun v6 =>
    thn (abin Pr .geq 3 (.tmp 34) (.tmp 38) v3 v6) fun v7 =>
    Br v7 (A7_5 Q  h0) (A7_6 Q (.int .i64 x) (.int .i64 y) (.pointer (some ⟨s, j, none⟩)) h0) := by
  refine resv_to R.wf fun h1 t1 n1 g1 => ?_
  have R1 := R.to' t1
  obtain ⟨l', v, b, hl', hv, hB, hset, hlen⟩ := R1.slot hj
  rw [hl] at hl'; cases hl'
  have t01 : To (Fp c s B0) h0 h1 := t0.trans t1 fun i _ h => h.elim
  rw [show ptr0 c = .pointer (some ⟨c, 0, none⟩) from rfl]
  simp only [nilV_ptr, thn_some, padd_ptr, ld1_of R1.sets hv, hset.len, ld1_of R1.cache (o := 0 + 0) rfl, abin_int, aint_geq, Br_dec]
  constructor
  · intro hge
    rw [if_pos (show ways ≤ l.length from hge)] at k
    have hSS : S0.set j l = S := by
      rw [← hS]
      have hjl : j < S.length := hj
      refine List.ext_getElem? fun i => ?_
      rw [List.getElem?_set]
      by_cases e : j = i
      · subst e; rw [if_pos rfl, if_pos hjl, hl]
      · rw [if_neg e]
    rw [hSS] at k
    exact b7_5 (k h1 B vs t01 R1 hB0)
  · intro hlt
    rw [if_neg (show ¬ ways ≤ l.length from hlt)] at k
    refine b7_6 ?_
    simp only [nilV_ptr, thn_some, ld1_of R1.sets hv, build45, fill45]
    refine alc_to R1.wf fun h2 t2 n2 g2 => ?_
    have R2 := R1.to' t2
    have hset2 := hset.to t2 fun _ _ h => h
    refine app_one R2.wf hset2 (by omega) g2 fun h3 v' b' t3 hset3 hb3 => ?_
    simp only [nilV_ptr, thn_some]
    refine slot_st R2 hj hB t3 hset3 hb3 (by simp; omega) fun h4 t4 R4 n4 => ?_
    have t24 : To (Fp c s B0) h0 h4 := by
      refine (t01.trans t2 fun i _ h => h.elim).trans t4 fun i hi hf => ?_
      rcases hB0 i hf with h5 | h5
      · exact h5
      · omega
    rw [hS] at R4
    refine k h4 _ _ t24 R4 fun z hz => ?_
    rcases Fp_set (n := h2.next) (fun x hx => (hb3 x hx).imp (fun e => by rw [hB, e]) id) hz with h5 | h5
    · exact hB0 z h5
    · exact .inr (by have := t01.next; have := t2.next; omega)

theorem set_self' {S : List Th} {j : Nat} {l : Th} (h : S[j]? = some l) : S.set j l = S := by
  refine List.ext_getElem? fun i => ?_
  rw [List.getElem?_set]
  by_cases e : j = i
  · subst e; rw [if_pos rfl, if_pos (List.getElem?_eq_some_iff.1 h).1, h]
  · rw [if_neg e]

theorem put_ok {h : AH} {c s : Nat} {ways x y : Int} {S : List Th} {B : List (Option Nat)} {vs : List Value} (R : CR h c s ways S B vs) (hx : 0 ≤ x) {j : Nat} (hj : j = (x % S.length).toNat) {l : Th} (hl : S[j]? = some l) (hl2 : l.length ≤ 999) {Q : Value → AH → Prop}
    (k : ∀ h' B' vs', To (Fp c s B) h h' → CR h' c s ways (S.set j (putL ways l x y).2) B' vs' → (∀ z, Fp c s B' z → Fp c s B z ∨ h.next ≤ z) → Q (.int .i64 (putL ways l x y).1) h') :
    Ok Pr K (.call 7 [ptr0 c, .int .i64 x, .int .i64 y]) h fun o h' => Q o.v h' := by
  refine c7 (b7_0 ?_)
  refine find_ok (Q := fun o0 h0 => thn (extV 0 o0) fun v1 => thn (extV 1 o0) fun v2 => thn (extV 2 o0) fun v3 => thn (abin Pr .neq 27 (.tmp 17) (.const (.int .i64 0)) v3 (.int .i64 0)) fun v4 =>
    Br v4 (A7_1 Q v3 h0) (A7_2 Q (ptr0 c) (.int .i64 x) (.int .i64 y) v1 v2 h0)) R hx fun h1 t1 => ?_
  have R1 := R.to' t1
  have hjl : j < S.length := by rw [hj]; exact mod_lt hx R.many.1
  have hgetD : S.getD (x % S.length).toNat [] = l := by rw [← hj]; simp [List.getD_eq_getElem?_getD, hl]
  rw [hgetD, ← hj]
  simp only [extV_tuple, List.getElem?_cons_zero, List.getElem?_cons_succ, thn_some, abin_int, aint_neq, Br_bne]
  refine ⟨fun h => absurd rfl h, fun _ => b7_2 ?_⟩
  simp only [abin_int, aint_geq, thn_some, Br_dec]
  have t1' : To (Fp c s B) h h1 := t1.mono fun _ _ h => h.elim
  unfold putL at k
  unfold at'
  cases hf : l.findIdx? (fun p => p.1 == x) with
  | none =>
    simp only [hf] at k ⊢
    refine ⟨fun h => by omega, fun _ => b7_4 ?_⟩
    exact put_tail R1 hjl hl hl2 t1' (fun z hz => .inl hz) (fun _ => rfl) k
  | some i =>
    simp only [hf] at k ⊢
    refine ⟨fun _ => b7_3 ?_, fun h => by omega⟩
    have hil : i < l.length := by
      rw [List.findIdx?_eq_some_iff_getElem] at hf
      exact hf.1
    obtain ⟨l', v, b, hl', hv, hB, hset, hlen⟩ := R1.slot hjl
    rw [hl] at hl'; cases hl'
    cases b with
    | none => obtain ⟨rfl, _⟩ := hset; simp at hil
    | some b =>
      obtain ⟨cap, rest, rfl, hgb, hcap, hrest, hb1, hb2⟩ := hset
      simp only [nilV_ptr, thn_some, ld1_of R1.sets hv, abin_int, aint_add]
      rw [IntWalk.i64_in _ (by omega)]
      refine delete_ok (Q := fun o3 h3 => thn (stV h3 1 (.pointer (some ⟨s, j, none⟩)) o3) fun h5 => resv h5 9 fun h6 => thn (ld1 h6 (.pointer (some ⟨s, j, none⟩))) fun v8 => thn (lenS v8) fun v9 => thn (nilV (ptr0 c)) fun v10 =>
        thn (padd 0 v10) fun v11 => thn (ld1 h6 v11) fun v12 => thn (abin Pr .geq 3 (.tmp 34) (.tmp 38) v9 v12) fun v13 => Br v13 (A7_5 Q h6) (A7_6 Q (.int .i64 x) (.int .i64 y) (.pointer (some ⟨s, j, none⟩)) h6)) hil hgb hcap hb1 hb2 R1.wf fun h2 t2 g2 => ?_
      have hlen1 : (l.eraseIdx i).length = l.length - 1 := by rw [List.length_eraseIdx, if_pos hil]
      have hset2 : SetR h2 (.slice (some ⟨b, 0, none⟩) (l.length - 1) cap) (l.eraseIdx i) (some b) :=
        ⟨cap, _, by rw [hlen1], g2, by rw [hlen1]; simp; omega, by simp only [List.all_cons, hrest, cellB, Bool.and_self], by rw [t2.base]; exact hb1, Nat.lt_of_lt_of_le hb2 t2.next⟩
      refine slot_st R1 hjl hB (t2.mono fun i _ e => by rw [e]) hset2 (fun z hz => .inl hz) (by omega) fun h3 t3 R3 n3 => ?_
      have t03 : To (Fp c s B) h h3 := t1'.trans t3 fun _ _ h => h
      have := put_tail R3 (by simpa using hjl) (l := l.eraseIdx i) (by rw [List.getElem?_set, if_pos rfl, if_pos hjl]) (by omega) t03 (fun z hz => (Fp_set (n := h.next) (fun x hx => .inl (by rw [hB, hx])) hz)) (S0 := S) (fun l' => by rw [List.set_set]) k
      simpa only [nilV_ptr, thn_some] using this

end Go.Proofs.Ytflmoocllahjnaa
