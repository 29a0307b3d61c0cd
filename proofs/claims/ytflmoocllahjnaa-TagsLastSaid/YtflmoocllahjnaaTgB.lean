/- A part of the proof of the statement that this folder claims, with no condition: definitions and lemmas on which the last text leans. -/
import Derived.Test.YtflmoocllahjnaaTgA
import Derived.Test.YtflmoocllahjnaaAb28
import Derived.IntWalk
namespace Go.Proofs.Ytflmoocllahjnaa
open Go Go.Ab Go.RowKit

theorem abin_ptr_nil {P : Program} {t e : TypeId} {x y : Operand} {a : Addr} (hu : P.underlying t = some (.pointer e)) : abin P .eql t x y (.pointer (some a)) (.pointer none) = some (.bool false) := by
  have : aeq P 10000 t (.pointer (some a)) (.pointer none) = some false := by show aeq P (9999 + 1) t _ _ = _; simp [aeq, hu]
  simp [abin, eqAsk, this]
theorem abin_ptr_nil_ne {P : Program} {t e : TypeId} {x y : Operand} {a : Addr} (hu : P.underlying t = some (.pointer e)) : abin P .neq t x y (.pointer (some a)) (.pointer none) = some (.bool true) := by
  have : aeq P 10000 t (.pointer (some a)) (.pointer none) = some false := by show aeq P (9999 + 1) t _ _ = _; simp [aeq, hu]
  simp [abin, eqAsk, this]

/-! ### Things, and how they lie -/
abbrev Th := List (Int × Int)
def enc (l : Th) : List Value := l.flatMap fun p => [.int .i64 p.1, .int .i64 p.2]
@[simp] theorem enc_nil : enc [] = [] := rfl
@[simp] theorem enc_cons {p : Int × Int} {l : Th} : enc (p :: l) = .int .i64 p.1 :: .int .i64 p.2 :: enc l := rfl
@[simp] theorem enc_append {l m : Th} : enc (l ++ m) = enc l ++ enc m := by simp [enc]
@[simp] theorem enc_length {l : Th} : (enc l).length = 2 * l.length := by
  induction l with
  | nil => rfl
  | cons p l ih => simp [ih]; omega
theorem enc_cells {l : Th} : (enc l).all cellB = true := by
  induction l with
  | nil => rfl
  | cons p l ih => simp only [enc_cons, List.all_cons, ih, cellB, Bool.and_self]
theorem enc_take {l : Th} {i : Nat} : (enc l).take (2 * i) = enc (l.take i) := by
  induction l generalizing i with
  | nil => simp
  | cons p l ih =>
    cases i with
    | zero => simp
    | succ i => rw [show 2 * (i + 1) = 2 * i + 1 + 1 by omega]; simp [ih]
theorem enc_drop {l : Th} {i : Nat} : (enc l).drop (2 * i) = enc (l.drop i) := by
  induction l generalizing i with
  | nil => simp
  | cons p l ih =>
    cases i with
    | zero => simp
    | succ i => rw [show 2 * (i + 1) = 2 * i + 1 + 1 by omega]; simp [ih]
theorem enc_at {l : Th} {i : Nat} {p : Int × Int} (h : l[i]? = some p) {r : List Value} : (enc l ++ r)[2 * i]? = some (.int .i64 p.1) ∧ (enc l ++ r)[2 * i + 1]? = some (.int .i64 p.2) := by
  induction l generalizing i with
  | nil => simp at h
  | cons q l ih =>
    cases i with
    | zero => simp at h; subst h; simp
    | succ i =>
      rw [show 2 * (i + 1) = 2 * i + 1 + 1 by omega]
      simp at h
      have := ih h
      simp only [enc_cons, List.cons_append, List.getElem?_cons_succ]
      exact this
theorem enc_two {l : Th} {i : Nat} {p : Int × Int} (h : l[i]? = some p) {r : List Value} : ((enc l ++ r).drop (2 * i)).take 2 = [.int .i64 p.1, .int .i64 p.2] := by
  have h1 := enc_at h (r := r)
  refine List.ext_getElem? fun j => ?_
  rw [List.getElem?_take]
  split
  · rw [List.getElem?_drop]
    rcases j with _ | _ | j
    · simpa using h1.1
    · simpa using h1.2
    · omega
  · rcases j with _ | _ | j <;> simp <;> omega

/-- one set -/
def SetR (h : AH) (v : Value) (l : Th) : Option Nat → Prop
  | none => l = [] ∧ v = .slice none 0 0
  | some b => ∃ cap rest, v = .slice (some ⟨b, 0, none⟩) l.length cap ∧ h.get b = some (.cells (enc l ++ rest) 45 (0, 0) false) ∧ 2 * l.length + rest.length = 2 * cap ∧ rest.all cellB = true ∧ h.base ≤ b ∧ b < h.next
/-- a cache -/
structure CR (h : AH) (c s : Nat) (ways : Int) (S : List Th) (B : List (Option Nat)) (vs : List Value) : Prop where
  cache : h.get c = some (.cells [.int .i64 ways, .slice (some ⟨s, 0, none⟩) S.length S.length] 38 (0, 0) true)
  sets : h.get s = some (.cells vs 42 (0, 0) true)
  wf : h.base ≤ h.next
  cb : h.base ≤ c
  sb : h.base ≤ s
  cn : c < h.next
  sn : s < h.next
  ne : c ≠ s
  lv : vs.length = S.length
  lB : B.length = S.length
  set : ∀ (i : Nat) l v b, S[i]? = some l → vs[i]? = some v → B[i]? = some b → SetR h v l b
  dist : ∀ (i j b : Nat), B[i]? = some (some b) → B[j]? = some (some b) → i = j
  nec : ∀ (i b : Nat), B[i]? = some (some b) → b ≠ c ∧ b ≠ s
  many : 0 < S.length ∧ S.length ≤ 1000
  len : ∀ (i : Nat) l, S[i]? = some l → l.length ≤ 1000
def Fp (c s : Nat) (B : List (Option Nat)) (i : Nat) : Prop := i = c ∨ i = s ∨ some i ∈ B

theorem SetR.to {h h' : AH} {v : Value} {l : Th} {b : Option Nat} (k : SetR h v l b) {F : Nat → Prop} (t : To F h h') (hf : ∀ x, b = some x → ¬ F x) : SetR h' v l b := by
  cases b with
  | none => exact k
  | some b =>
    obtain ⟨cap, rest, h1, h2, h3, h4, h5, h6⟩ := k
    exact ⟨cap, rest, h1, by rw [t.keep b h6 (hf b rfl)]; exact h2, h3, h4, by rw [t.base]; exact h5, Nat.lt_of_lt_of_le h6 t.next⟩
theorem CR.to {h h' : AH} {c s : Nat} {ways : Int} {S : List Th} {B : List (Option Nat)} {vs : List Value} (R : CR h c s ways S B vs) {F : Nat → Prop} (t : To F h h') (hf : ∀ x, Fp c s B x → ¬ F x) : CR h' c s ways S B vs where
  cache := by rw [t.keep c R.cn (hf c (.inl rfl))]; exact R.cache
  sets := by rw [t.keep s R.sn (hf s (.inr (.inl rfl)))]; exact R.sets
  wf := t.wf
  cb := by rw [t.base]; exact R.cb
  sb := by rw [t.base]; exact R.sb
  cn := Nat.lt_of_lt_of_le R.cn t.next
  sn := Nat.lt_of_lt_of_le R.sn t.next
  ne := R.ne
  lv := R.lv
  lB := R.lB
  set := fun i l v b h1 h2 h3 => (R.set i l v b h1 h2 h3).to t fun x hx => hf x (.inr (.inr (by subst hx; exact List.mem_of_getElem? h3)))
  dist := R.dist
  nec := R.nec
  many := R.many
  len := R.len
theorem CR.to' {h h' : AH} {c s : Nat} {ways : Int} {S : List Th} {B : List (Option Nat)} {vs : List Value} (R : CR h c s ways S B vs) (t : To No h h') : CR h' c s ways S B vs := R.to t fun _ _ h => h

/-! ### find -/
def at' (l : Th) (x : Int) : Int := match l.findIdx? (fun p => p.1 == x) with
  | some i => i
  | none => -1
theorem is_ok {h : AH} {a b x : Int} {r : Nat} {e : TypeId} (w : h.base ≤ h.next) (hr : r < h.next) (hg : h.get r = some (.cells [.int .i64 x] e (0, 0) true)) {Q : Value → AH → Prop}
    (k : ∀ h', To No h h' → Q (.bool (a == x)) h') : Ok Pr K (.call 14 [.agg ⟨[.int .i64 a, .int .i64 b]⟩, ptr0 r]) h fun o h' => Q o.v h' := by
  refine c14 (b14_0 ?_)
  simp only [blkOf_agg, thn_some]
  refine alc_to w fun h1 t1 n1 g1 => ?_
  have hg' : h1.get r = some (.cells [.int .i64 x] e (0, 0) true) := by rw [t1.get hr]; exact hg
  simp only [ptr0, padd_ptr, thn_some, ld1_of g1 (o := 0 + 0) (v := .int .i64 a) rfl, ld1_of hg' (o := 0) (v := .int .i64 x) rfl, abin_int, aint_eql]
  exact k _ t1

theorem at_none {l : Th} {x : Int} (h : ∀ (j : Nat) (p : Int × Int), l[j]? = some p → p.1 ≠ x) : at' l x = -1 := by
  unfold at'
  have : l.findIdx? (fun p => p.1 == x) = none := by
    rw [List.findIdx?_eq_none_iff]
    intro p hp
    obtain ⟨j, hj⟩ := List.mem_iff_getElem?.1 hp
    simpa using h j p hj
  rw [this]
theorem at_some {l : Th} {x : Int} {i : Nat} {p : Int × Int} (hp : l[i]? = some p) (hx : p.1 = x) (h : ∀ (j : Nat) (p : Int × Int), j < i → l[j]? = some p → p.1 ≠ x) : at' l x = i := by
  unfold at'
  have : l.findIdx? (fun p => p.1 == x) = some i := by
    rw [List.findIdx?_eq_some_iff_getElem]
    obtain ⟨hlt, he⟩ := List.getElem?_eq_some_iff.1 hp
    refine ⟨hlt, by rw [he]; simpa using hx, fun j hj => ?_⟩
    have := h j l[j] hj (List.getElem?_eq_getElem (by omega))
    simpa using this
  rw [this]

/-- the loop of find -/
theorem find_loop {x : Int} {r : Nat} {e : TypeId} {l : Th} {v t4 : Value} {b : Option Nat} {Q : Value → AH → Prop} (hlen : l.length ≤ 1000) :
    ∀ (m i : Nat) (h : AH), i + m = l.length → h.base ≤ h.next → r < h.next → h.get r = some (.cells [.int .i64 x] e (0, 0) true) → SetR h v l b → (∀ (j : Nat) (p : Int × Int), j < i → l[j]? = some p → p.1 ≠ x) →
      (∀ h', To No h h' → Q (.tuple #[t4, .int .i64 (at' l x), .int .i64 0]) h') →
      A12_5 Q t4 (.int .i64 (-1)) (.func (.func 14) #[] #[ptr0 r]) v (.int .i64 l.length) (.int .i64 i) h := by
  intro m
  induction m with
  | zero =>
    intro i h him w hr hg hs hno k
    refine b12_5 ?_
    simp only [abin_int, aint_lss, thn_some, Br_dec]
    refine ⟨fun hlt => by omega, fun _ => b12_7 ?_⟩
    have := at_none (l := l) (x := x) fun j p hp => hno j p (by have := (List.getElem?_eq_some_iff.1 hp).1; omega) hp
    rw [this] at k
    exact k h (To.refl w)
  | succ m ih =>
    intro i h him w hr hg hs hno k
    refine b12_5 ?_
    simp only [abin_int, aint_lss, thn_some, Br_dec]
    refine ⟨fun _ => b12_6 ?_, fun hlt => by omega⟩
    have hil : i < l.length := by omega
    have hp : l[i]? = some l[i] := List.getElem?_eq_getElem hil
    generalize l[i] = p at hp
    cases b with
    | none => obtain ⟨rfl, _⟩ := hs; simp at hil
    | some b =>
      have hs0 := hs
      obtain ⟨cap, rest, rfl, hgb, hcap, hrest, hb1, hb2⟩ := hs
      rw [idxS_of (by omega) (by omega), thn_some]
      have h2 := enc_two hp (r := rest)
      have e1 : 0 + (i : Int).toNat * 2 = 2 * i := by omega
      rw [e1, ldN_of hgb (by simp; omega), thn_some, h2]
      refine alc_to w fun h1 t1 n1 g1 => ?_
      refine st_to (vs := [.int .i64 p.1, .int .i64 p.2]) t1.wf (by rw [t1.base]; exact w) g1 rfl rfl rfl (by simp) fun h2 t2 n2 g2 => ?_
      have hlt2 : h.next < h2.next := by omega
      simp only [splice, List.take_zero, List.nil_append, List.length_cons, List.length_nil, Nat.zero_add, List.drop_succ_cons, List.drop_zero, List.append_nil] at g2
      have t02 : To No h h2 := t1.trans (t2.mono (F' := (· = h.next)) fun i _ h => h) fun i hi hf => by omega
      rw [show ptr0 h.next = .pointer (some ⟨h.next, 0, none⟩) from rfl, ldN_of g2 (by simp), thn_some]
      refine ⟨by kernel_rfl, ?_⟩
      show Ok Pr K (.call 14 [.agg ⟨[.int .i64 p.1, .int .i64 p.2]⟩, ptr0 r]) h2 _
      refine is_ok (Q := fun w5 h5 => Br w5 (A12_8 Q t4 (.int .i64 i) h5) (A12_9 Q t4 (.int .i64 (-1)) (.func (.func 14) #[] #[ptr0 r]) (.slice (some ⟨b, 0, none⟩) l.length cap) (.int .i64 l.length) (.int .i64 i) h5)) t2.wf (by omega) (by rw [t02.get hr]; exact hg) fun h3 t3 => ?_
      have t03 : To No h h3 := t02.trans t3 fun _ _ h => h
      rw [Br_beq]
      refine ⟨fun hx => b12_8 ?_, fun hx => b12_9 ?_⟩
      · rw [at_some hp hx hno] at k
        exact k h3 t03
      · simp only [abin_int, aint_add, thn_some]
        rw [IntWalk.i64_in _ (by omega)]
        refine ih (i + 1) h3 (by omega) t03.wf (Nat.lt_of_lt_of_le hr t03.next) (by rw [t03.get hr]; exact hg) (hs0.to t03 fun _ _ h => h) ?_ fun h' t' => k h' (t03.trans t' fun _ _ h => h)
        intro j q hj hq
        rcases Nat.lt_or_ge j i with h1 | h1
        · exact hno j q h1 hq
        · have : j = i := by omega
          subst this; rw [hp] at hq; cases hq; exact hx

theorem under26 : Pr.underlying 26 = some (.pointer 38) := by kernel_rfl

theorem find_ok {h : AH} {c s : Nat} {ways x : Int} {S : List Th} {B : List (Option Nat)} {vs : List Value} (R : CR h c s ways S B vs) (hx : 0 ≤ x) {Q : Value → AH → Prop}
    (k : ∀ h', To No h h' → Q (.tuple #[.pointer (some ⟨s, (x % S.length).toNat, none⟩), .int .i64 (at' (S.getD (x % S.length).toNat []) x), .int .i64 0]) h') :
    Ok Pr K (.call 12 [ptr0 c, .int .i64 x]) h fun o h' => Q o.v h' := by
  refine c12 (b12_0 ?_)
  simp only [blkOf_int, thn_some]
  refine alc_to R.wf fun h1 t1 n1 g1 => ?_
  have R1 := R.to' t1
  rw [show ptr0 c = .pointer (some ⟨c, 0, none⟩) from rfl, abin_ptr_nil under26, thn_some, Br_false]
  refine b12_2 ?_
  rw [show ptr0 h.next = .pointer (some ⟨h.next, 0, none⟩) from rfl, ld1_of g1 rfl, thn_some, abin_int, aint_lss, thn_some, Br_dec]
  refine ⟨fun hl => by omega, fun _ => b12_4 ?_⟩
  refine resv_to R1.wf fun h2 t2 n2 g2 => ?_
  have R2 := R1.to' t2
  have gr : h2.get h.next = some (.cells [.int .i64 x] 3 (0, 0) true) := by rw [g2]; exact g1
  have hn : (S.length : Int) ≠ 0 := by have := R.many.1; omega
  have hpos : (0 : Int) < S.length := by have := R.many.1; omega
  have hmod : x.tmod S.length = x % S.length := Int.tmod_eq_emod_of_nonneg hx
  have h0 : 0 ≤ x % S.length := Int.emod_nonneg _ hn
  have h1' : x % S.length < S.length := Int.emod_lt_of_pos _ hpos
  simp only [nilV_ptr, thn_some, padd_ptr, ld1_of R2.cache (o := 0 + 1) rfl, ld1_of gr (o := 0) rfl, lenS_slice, abin_int, aint_rem hn, hmod]
  rw [idxS_of h0 h1', thn_some]
  generalize hj : (x % S.length).toNat = j at k ⊢
  have hjl : j < S.length := by omega
  obtain ⟨l, hS⟩ : ∃ l, S[j]? = some l := ⟨_, List.getElem?_eq_getElem hjl⟩
  obtain ⟨v, hv⟩ : ∃ v, vs[j]? = some v := ⟨_, List.getElem?_eq_getElem (by rw [R.lv]; exact hjl)⟩
  obtain ⟨b, hB⟩ : ∃ b, B[j]? = some b := ⟨_, List.getElem?_eq_getElem (by rw [R.lB]; exact hjl)⟩
  have hset := R2.set j _ _ _ hS hv hB
  have hgetD : S.getD j [] = l := by simp [List.getD_eq_getElem?_getD, hS]
  rw [hgetD] at k
  have hlen := R.len j _ hS
  have hsl : lenS v = some (.int .i64 l.length) := by
    cases b with
    | none => obtain ⟨rfl, rfl⟩ := hset; rfl
    | some b => obtain ⟨cap, rest, rfl, _⟩ := hset; rfl
  simp only [nilV_ptr, thn_some, Nat.zero_add, Nat.mul_one]
  rw [ld1_of R2.sets hv, thn_some, hsl, thn_some]
  have t02 : To No h h2 := t1.trans t2 fun _ _ h => h
  exact find_loop hlen l.length 0 h2 (by omega) R2.wf (by omega) gr hset (fun j p hj => by omega) fun h' t' => k h' (t02.trans t' fun _ _ h => h)

end Go.Proofs.Ytflmoocllahjnaa
